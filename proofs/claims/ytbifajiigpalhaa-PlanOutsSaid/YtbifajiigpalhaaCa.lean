import Derived.Test.YtbifajiigpalhaaNe
import Derived.Test.YtbifajiigpalhaaPd
import Derived.Test.YtbifajiigpalhaaProg
import Derived.Test.YtbifajiigpalhaaLs
import Derived.Outline
import Derived.StillTailTactics
import Derived.Deep.DeepCutAuto
import Derived.Deep.CutBlock
import Derived.Deep.LoopGhost
import Derived.Deep.QuietTactic
import Derived.BigQuiet
import Derived.Deep.RegionHeld3
import Derived.Deep.RegionLaw
set_option linter.unusedVariables false
set_option linter.unusedSimpArgs false
namespace Go.Proofs.Ytbifajiigpalhaa
open Go.RowKit
/-! ### which tasks a node has -/
def cfr {α : Type} (p : α → Bool) (l : List α) (m : Nat) : List Int := (l.zipIdx m).flatMap fun x => if p x.1 then [(x.2 : Int)] else []
theorem chosen_cfr {α : Type} (p : α → Bool) (l : List α) : chosen p l = cfr p l 0 := rfl
theorem cfr_cons {α : Type} (p : α → Bool) (x : α) (l : List α) (m : Nat) : cfr p (x :: l) m = (if p x then [(m : Int)] else []) ++ cfr p l (m + 1) := by
  unfold cfr
  rw [List.zipIdx_cons, List.flatMap_cons]
theorem cfr_append {α : Type} (p : α → Bool) (l1 l2 : List α) : ∀ m, cfr p (l1 ++ l2) m = cfr p l1 m ++ cfr p l2 (m + l1.length) := by
  induction l1 with
  | nil => intro m; simp [cfr]
  | cons a l ih =>
    intro m
    rw [List.cons_append, cfr_cons, cfr_cons, ih, List.append_assoc, List.length_cons, show m + 1 + l.length = m + (l.length + 1) by omega]
theorem cfr_none {α : Type} (p : α → Bool) (l : List α) (h : ∀ x ∈ l, p x = false) : ∀ m, cfr p l m = [] := by
  induction l with
  | nil => intro m; rfl
  | cons a l ih =>
    intro m
    rw [cfr_cons, h a (by simp), ih fun x hx => h x (by simp [hx])]
    rfl
theorem cfr_all {α : Type} (p : α → Bool) (l : List α) (h : ∀ x ∈ l, p x = true) : ∀ m, cfr p l m = (List.range l.length).map fun a => ((m + a : Nat) : Int) := by
  induction l with
  | nil => intro m; rfl
  | cons a l ih =>
    intro m
    rw [cfr_cons, h a (by simp), ih fun x hx => h x (by simp [hx]), List.length_cons, List.range_succ_eq_map, List.map_cons, List.map_map]
    show _ :: _ = _
    congr 1
    apply List.map_congr_left
    intro x _
    show ((m + 1 + x : Nat) : Int) = ((m + (x + 1) : Nat) : Int)
    omega
def blk (n : Nat) (z : Nd) : List (Int × Int) := (List.range (tcount z)).flatMap fun k : Nat => [((n : Int), (k : Int))]
theorem blk_eq (n : Nat) (z : Nd) : blk n z = (List.range (tcount z)).map fun k : Nat => ((n : Int), (k : Int)) := by
  unfold blk
  induction List.range (tcount z) with
  | nil => rfl
  | cons a l ih => rw [List.flatMap_cons, ih]; rfl
theorem blk_len (n : Nat) (z : Nd) : (blk n z).length = tcount z := by rw [blk_eq, List.length_map, List.length_range]
def tasksF (n : Nat) (zs : List Nd) : List (Int × Int) := (zs.zipIdx n).flatMap fun x => blk x.2 x.1
theorem tasks_F (zs : List Nd) : tasks zs = tasksF 0 zs := rfl
theorem tasksF_cons (n : Nat) (z : Nd) (l : List Nd) : tasksF n (z :: l) = blk n z ++ tasksF (n + 1) l := by
  unfold tasksF
  rw [List.zipIdx_cons, List.flatMap_cons]
theorem tasksF_ge (l : List Nd) : ∀ n, ∀ x ∈ tasksF n l, (n : Int) ≤ x.1 := by
  induction l with
  | nil => intro n x hx; cases hx
  | cons z l ih =>
    intro n x hx
    rw [tasksF_cons, List.mem_append] at hx
    rcases hx with hx | hx
    · rw [blk_eq, List.mem_map] at hx
      obtain ⟨a, _, rfl⟩ := hx
      exact Int.le_refl _
    · have := ih (n + 1) x hx
      omega
def fst0 (l : List Nd) (i : Nat) : Nat := ((l.take i).map tcount).sum
theorem tasksF_blk (l : List Nd) : ∀ (n m i : Nat) (z : Nd), l[i]? = some z → cfr (fun x => x.1 == ((n + i : Nat) : Int)) (tasksF n l) m = (List.range (tcount z)).map fun a => ((m + fst0 l i + a : Nat) : Int) := by
  induction l with
  | nil => intro n m i z hz; cases hz
  | cons y l ih =>
    intro n m i z hz
    rw [tasksF_cons, cfr_append, blk_len]
    cases i with
    | zero =>
      cases hz
      rw [cfr_all _ (blk n y) (fun x hx => by rw [blk_eq, List.mem_map] at hx; obtain ⟨a, _, rfl⟩ := hx; simp), cfr_none _ (tasksF (n + 1) l) (fun x hx => by have := tasksF_ge l (n + 1) x hx; rw [beq_eq_false_iff_ne]; omega), blk_len, List.append_nil]
      rfl
    | succ i =>
      rw [cfr_none _ (blk n y) (fun x hx => by rw [blk_eq, List.mem_map] at hx; obtain ⟨a, _, rfl⟩ := hx; rw [beq_eq_false_iff_ne]; omega), List.nil_append, show n + (i + 1) = n + 1 + i by omega, ih (n + 1) (m + tcount y) i z hz]
      apply List.map_congr_left
      intro a _
      show _ = ((m + (tcount y :: (l.take i).map tcount).sum + a : Nat) : Int)
      rw [List.sum_cons]
      unfold fst0
      omega
theorem tasksF_at (l : List Nd) : ∀ (n i : Nat) (z : Nd) (a : Nat), l[i]? = some z → a < tcount z → (tasksF n l)[fst0 l i + a]? = some (((n + i : Nat) : Int), (a : Int)) := by
  induction l with
  | nil => intro n i z a hz; cases hz
  | cons y l ih =>
    intro n i z a hz ha
    rw [tasksF_cons]
    cases i with
    | zero =>
      cases hz
      rw [List.getElem?_append_left (by rw [blk_len]; show 0 + a < _; omega), blk_eq, List.getElem?_map]
      show Option.map _ (List.range (tcount y))[0 + a]? = _
      rw [List.getElem?_range (by omega)]
      simp
    | succ i =>
      have : fst0 (y :: l) (i + 1) = tcount y + fst0 l i := by
        show (tcount y :: (l.take i).map tcount).sum = _
        rw [List.sum_cons]
        rfl
      rw [this, List.getElem?_append_right (by rw [blk_len]; omega), blk_len, show tcount y + fst0 l i + a - tcount y = fst0 l i + a by omega, ih (n + 1) i z a hz ha, show n + 1 + i = n + (i + 1) by omega]
theorem chosen_tasks {zs : List Nd} {i : Nat} {z : Nd} (hz : zs[i]? = some z) : chosen (fun x => x.1 == (i : Int)) (tasks zs) = (List.range (tcount z)).map fun a => ((fst0 zs i + a : Nat) : Int) := by
  have := tasksF_blk zs 0 0 i z hz
  rw [chosen_cfr, tasks_F]
  simpa using this
theorem tasks_at {zs : List Nd} {i : Nat} {z : Nd} {a : Nat} (hz : zs[i]? = some z) (ha : a < tcount z) : (tasks zs)[fst0 zs i + a]? = some ((i : Int), (a : Int)) := by
  have := tasksF_at zs 0 i z a hz ha
  rw [tasks_F]
  simpa using this
theorem tasks_length (zs : List Nd) : (tasks zs).length = (zs.map tcount).sum := by
  have h : ∀ (l : List Nd) n, (tasksF n l).length = (l.map tcount).sum := by
    intro l
    induction l with
    | nil => intro n; rfl
    | cons z l ih => intro n; rw [tasksF_cons, List.length_append, blk_len, ih, List.map_cons, List.sum_cons]
  exact h zs 0
theorem mem_chosen {α : Type} (p : α → Bool) (l : List α) (x : Int) : x ∈ chosen p l ↔ ∃ (j : Nat) (y : α), l[j]? = some y ∧ p y = true ∧ x = (j : Int) := by
  unfold chosen
  rw [List.mem_flatMap]
  constructor
  · rintro ⟨⟨y, j⟩, h, hx⟩
    rw [List.mk_mem_zipIdx_iff_getElem?] at h
    dsimp only at hx
    split at hx
    · rw [List.mem_singleton] at hx
      exact ⟨j, y, h, by assumption, hx⟩
    · cases hx
  · rintro ⟨j, y, h, hp, rfl⟩
    refine ⟨(y, j), List.mk_mem_zipIdx_iff_getElem?.2 h, ?_⟩
    dsimp only
    rw [if_pos hp]
    exact List.mem_singleton.2 rfl
theorem chosen_pos {α : Type} (p : α → Bool) (l : List α) : 0 < (chosen p l).length ↔ ∃ x ∈ l, p x = true := by
  constructor
  · intro h
    obtain ⟨x, hx⟩ := List.exists_mem_of_length_pos h
    obtain ⟨j, y, hy, hp, _⟩ := (mem_chosen p l x).1 hx
    exact ⟨y, List.mem_of_getElem? hy, hp⟩
  · rintro ⟨y, hy, hp⟩
    obtain ⟨j, hj⟩ := List.mem_iff_getElem?.1 hy
    exact List.length_pos_of_mem ((mem_chosen p l (j : Int)).2 ⟨j, y, hj, hp, rfl⟩)
/-- A task is of a node, and a part of it. -/
theorem tasks_mem {zs : List Nd} {x : Int × Int} (hx : x ∈ tasks zs) : ∃ (i : Nat) (z : Nd) (a : Nat), zs[i]? = some z ∧ a < tcount z ∧ x = ((i : Int), (a : Int)) := by
  unfold tasks at hx
  rw [List.mem_flatMap] at hx
  obtain ⟨⟨z, i⟩, h, hx⟩ := hx
  rw [List.mk_mem_zipIdx_iff_getElem?] at h
  rw [List.mem_flatMap] at hx
  obtain ⟨a, ha, hx⟩ := hx
  rw [List.mem_singleton] at hx
  rw [List.mem_range] at ha
  exact ⟨i, z, a, h, ha, hx⟩
/-- The channels, one by one. -/
theorem chans_mem {zs : List Nd} {c : Int × Int × Int} : c ∈ chans zs ↔ ∃ (i : Nat) (z : Nd) (a : Nat) (k : Int) (f t : Int), zs[i]? = some z ∧ z.2[a]? = some k ∧ isN zs.length k = true ∧ f ∈ chosen (fun y => y.1 == k) (tasks zs) ∧ t ∈ chosen (fun y => y.1 == (i : Int)) (tasks zs) ∧
    (((keyed zs i || parOf zs k != z.par) || partOf (tasks zs) f == partOf (tasks zs) t) = true) ∧ c = (f, t, (a : Int)) := by
  unfold chans
  rw [List.mem_flatMap]
  constructor
  · rintro ⟨⟨z, i⟩, h, hc⟩
    rw [List.mk_mem_zipIdx_iff_getElem?] at h
    unfold chn4 at hc
    rw [List.mem_flatMap] at hc
    obtain ⟨⟨k, a⟩, hk, hc⟩ := hc
    rw [List.mk_mem_zipIdx_iff_getElem?] at hk
    unfold chn3 at hc
    dsimp only at hc hk
    split at hc
    · rename_i hi
      rw [List.mem_flatMap] at hc
      obtain ⟨f, hf, hc⟩ := hc
      unfold chn2 at hc
      rw [List.mem_flatMap] at hc
      obtain ⟨t, ht, hc⟩ := hc
      unfold chn1 at hc
      split at hc
      · rw [List.mem_singleton] at hc
        exact ⟨i, z, a, k, f, t, h, hk, hi, hf, ht, by assumption, hc⟩
      · cases hc
    · cases hc
  · rintro ⟨i, z, a, k, f, t, h, hk, hi, hf, ht, hp, rfl⟩
    refine ⟨(z, i), List.mk_mem_zipIdx_iff_getElem?.2 h, ?_⟩
    unfold chn4
    rw [List.mem_flatMap]
    refine ⟨(k, a), List.mk_mem_zipIdx_iff_getElem?.2 hk, ?_⟩
    unfold chn3
    dsimp only
    rw [if_pos hi, List.mem_flatMap]
    refine ⟨f, hf, ?_⟩
    unfold chn2
    rw [List.mem_flatMap]
    refine ⟨t, ht, ?_⟩
    unfold chn1
    rw [if_pos hp]
    exact List.mem_singleton.2 rfl
theorem tcount_par {N : Nat} {z : Nd} (h : NodeOk N z) : (tcount z : Int) = z.par := by
  have := h.par
  unfold tcount
  omega
theorem node_at {zs : List Nd} {k : Int} (h : isN zs.length k = true) : ∃ (m : Nat) (y : Nd), k = (m : Int) ∧ zs[m]? = some y := by
  unfold isN at h
  simp only [Bool.and_eq_true, decide_eq_true_eq] at h
  obtain ⟨m, rfl⟩ := Int.eq_ofNat_of_zero_le h.1
  exact ⟨m, _, rfl, List.getElem?_eq_getElem (by omega)⟩
theorem parOf_at {zs : List Nd} {m : Nat} {y : Nd} (h : zs[m]? = some y) : parOf zs (m : Int) = y.par := by unfold parOf; rw [Int.toNat_natCast, h]
theorem partOf_at {T : List (Int × Int)} {m : Nat} {y : Int × Int} (h : T[m]? = some y) : partOf T (m : Int) = y.2 := by unfold partOf; rw [Int.toNat_natCast, h]
theorem nodeOf_at {T : List (Int × Int)} {m : Nat} {y : Int × Int} (h : T[m]? = some y) : nodeOf T (m : Int) = y.1 := by unfold nodeOf; rw [Int.toNat_natCast, h]
/-- What a channel says. -/
theorem chans_in {zs : List Nd} {c : Int × Int × Int} (hc : c ∈ chans zs) : ∃ (f t i a m : Nat) (z : Nd) (p q : Int), c = ((f : Int), (t : Int), (a : Int)) ∧ (tasks zs)[f]? = some ((m : Int), p) ∧ (tasks zs)[t]? = some ((i : Int), q) ∧ zs[i]? = some z ∧ z.2[a]? = some (m : Int) ∧ m < zs.length := by
  obtain ⟨i, z, a, k, f, t, hz, ha, hk, hf, ht, _, rfl⟩ := chans_mem.1 hc
  obtain ⟨m, y, rfl, hy⟩ := node_at hk
  obtain ⟨f, ⟨k1, p⟩, hf, h1, rfl⟩ := (mem_chosen _ _ _).1 hf
  obtain ⟨t, ⟨k2, q⟩, ht, h2, rfl⟩ := (mem_chosen _ _ _).1 ht
  obtain rfl : k1 = (m : Int) := by simpa using h1
  obtain rfl : k2 = (i : Int) := by simpa using h2
  exact ⟨f, t, i, a, m, z, p, q, rfl, hf, ht, hz, ha, (List.getElem?_eq_some_iff.1 hy).1⟩
theorem to_pos {zs : List Nd} (hok : JobOk zs) {t i : Nat} {b : Int} {z : Nd} (ht : (tasks zs)[t]? = some ((i : Int), b)) (hz : zs[i]? = some z) : 0 < (toOf (chans zs) (t : Int)).length ↔ ¬ z.kind = 1 := by
  unfold toOf
  rw [chosen_pos]
  have hn := hok.node z (List.mem_of_getElem? hz)
  rw [hn.src]
  constructor
  · rintro ⟨c, hc, hp⟩ h0
    obtain ⟨f, t', i', a, m, z', p, q, rfl, _, ht', hz', ha, _⟩ := chans_in hc
    simp only [beq_iff_eq] at hp
    obtain rfl : t' = t := by omega
    rw [ht] at ht'
    simp only [Option.some.injEq, Prod.mk.injEq] at ht'
    obtain rfl : i' = i := by omega
    rw [hz] at hz'
    cases hz'
    rw [h0] at ha
    cases ha
  · intro h
    obtain ⟨k, l, hl⟩ := List.exists_cons_of_ne_nil h
    have hk := hn.ins k (by rw [hl]; simp)
    obtain ⟨m, y, rfl, hy⟩ := node_at hk
    have hny := hok.node y (List.mem_of_getElem? hy)
    obtain ⟨i', z', b', hz', hb', heq⟩ := tasks_mem (List.mem_of_getElem? ht)
    simp only [Prod.mk.injEq] at heq
    obtain ⟨h1, rfl⟩ := heq
    obtain rfl : i = i' := by omega
    rw [hz] at hz'
    cases hz'
    have hb : b' < tcount y ∨ (keyed zs i || parOf zs (m : Int) != z.par) = true := by
      have e1 := tcount_par hn
      have e2 := tcount_par hny
      by_cases he : parOf zs (m : Int) = z.par
      · rw [parOf_at hy] at he
        left
        omega
      · right
        simp [he]
    have hfa : ∀ a, a < tcount y → ((((keyed zs i || parOf zs (m : Int) != z.par) || partOf (tasks zs) ((fst0 zs m + a : Nat) : Int) == partOf (tasks zs) (t : Int)) = true)) → ∃ x ∈ chans zs, (x.2.1 == (t : Int)) = true := fun a ha hh =>
      ⟨(((fst0 zs m + a : Nat) : Int), (t : Int), 0), chans_mem.2 ⟨i, z, 0, (m : Int), _, _, hz, by rw [hl]; rfl, hk, (mem_chosen _ _ _).2 ⟨_, _, tasks_at hy ha, by simp, rfl⟩, (mem_chosen _ _ _).2 ⟨_, _, ht, by simp, rfl⟩, hh, rfl⟩, by simp⟩
    rcases hb with hb | hb
    · refine hfa b' hb ?_
      rw [partOf_at (tasks_at hy hb), partOf_at ht]
      simp
    · refine hfa 0 (by have := hny.par; have := tcount_par hny; omega) ?_
      rw [hb]
      rfl
theorem from_pos {zs : List Nd} (hok : JobOk zs) {t m : Nat} {b : Int} {y : Nd} (ht : (tasks zs)[t]? = some ((m : Int), b)) (hy : zs[m]? = some y) : 0 < (fromOf (chans zs) (t : Int)).length ↔ (m : Int) ∈ zs.flatMap (·.2) := by
  unfold fromOf
  rw [chosen_pos]
  have hny := hok.node y (List.mem_of_getElem? hy)
  constructor
  · rintro ⟨c, hc, hp⟩
    obtain ⟨t', u, i, a, m', z, p, q, rfl, ht', _, hz, ha, _⟩ := chans_in hc
    simp only [beq_iff_eq] at hp
    obtain rfl : t' = t := by omega
    rw [ht] at ht'
    simp only [Option.some.injEq, Prod.mk.injEq] at ht'
    obtain rfl : m' = m := by omega
    exact List.mem_flatMap.2 ⟨z, List.mem_of_getElem? hz, List.mem_of_getElem? ha⟩
  · intro h
    obtain ⟨z, hz, hm⟩ := List.mem_flatMap.1 h
    obtain ⟨i, hz⟩ := List.mem_iff_getElem?.1 hz
    obtain ⟨a, ha⟩ := List.mem_iff_getElem?.1 hm
    have hn := hok.node z (List.mem_of_getElem? hz)
    obtain ⟨i', z', b', hz', hb', heq⟩ := tasks_mem (List.mem_of_getElem? ht)
    simp only [Prod.mk.injEq] at heq
    obtain ⟨h1, rfl⟩ := heq
    obtain rfl : m = i' := by omega
    rw [hy] at hz'
    cases hz'
    have hb : b' < tcount z ∨ (keyed zs i || parOf zs (m : Int) != z.par) = true := by
      have e1 := tcount_par hn
      have e2 := tcount_par hny
      by_cases he : parOf zs (m : Int) = z.par
      · rw [parOf_at hy] at he
        left
        omega
      · right
        simp [he]
    have hfa : ∀ d, d < tcount z → ((((keyed zs i || parOf zs (m : Int) != z.par) || partOf (tasks zs) (t : Int) == partOf (tasks zs) ((fst0 zs i + d : Nat) : Int)) = true)) → ∃ x ∈ chans zs, (x.1 == (t : Int)) = true := fun d hd hh =>
      ⟨((t : Int), ((fst0 zs i + d : Nat) : Int), (a : Int)), chans_mem.2 ⟨i, z, a, (m : Int), _, _, hz, ha, hn.ins _ hm, (mem_chosen _ _ _).2 ⟨_, _, ht, by simp, rfl⟩, (mem_chosen _ _ _).2 ⟨_, _, tasks_at hz hd, by simp, rfl⟩, hh, rfl⟩, by simp⟩
    rcases hb with hb | hb
    · refine hfa b' hb ?_
      rw [partOf_at (tasks_at hz hb), partOf_at ht]
      simp
    · refine hfa 0 (by have := hn.par; have := tcount_par hn; omega) ?_
      rw [hb]
      rfl
/-! ### how many channels an input brings -/
theorem flatMap_len_eq {α β : Type} (f : α → List β) (L : List α) (m : Nat) (h : ∀ x ∈ L, (f x).length = m) : (L.flatMap f).length = L.length * m := by
  induction L with
  | nil => simp
  | cons a l ih =>
    rw [List.flatMap_cons, List.length_append, List.length_cons, Nat.succ_mul, ih fun x hx => h x (by simp [hx]), h a (by simp)]
    omega
theorem one_of (q : Nat) (t' : Nat → Int × Int × Int) : ∀ n, ((List.range n).flatMap fun a : Nat => if ((q : Int) == (a : Int)) = true then [t' a] else []).length = if q < n then 1 else 0 := by
  intro n
  induction n with
  | zero => rfl
  | succ n ih =>
    rw [List.range_succ, List.flatMap_append, List.length_append, ih, List.flatMap_singleton]
    rcases Nat.lt_trichotomy q n with h | h | h
    · rw [if_pos h, if_neg (by rw [beq_iff_eq]; omega), if_pos (by omega)]; rfl
    · subst h; simp
    · rw [if_neg (by omega), if_neg (by rw [beq_iff_eq]; omega), if_neg (by omega)]; rfl
theorem flatMap_cg {α β : Type} {f g : α → List β} {L : List α} (h : ∀ x ∈ L, f x = g x) : L.flatMap f = L.flatMap g := by
  induction L with
  | nil => rfl
  | cons a l ih => rw [List.flatMap_cons, List.flatMap_cons, h a (by simp), ih fun x hx => h x (by simp [hx])]
def costOf (zs : List Nd) (i : Nat) (p q : Int) : Int := if (keyed zs i || p != q) = true then p * q else p
theorem chn3_len {zs : List Nd} (hok : JobOk zs) {i m a : Nat} {z y : Nd} (hz : zs[i]? = some z) (hy : zs[m]? = some y) : ((chn3 zs (tasks zs) i z ((m : Int), a)).length : Int) = costOf zs i y.par z.par := by
  have hn := hok.node z (List.mem_of_getElem? hz)
  have hny := hok.node y (List.mem_of_getElem? hy)
  have e1 := tcount_par hn
  have e2 := tcount_par hny
  have hm := (List.getElem?_eq_some_iff.1 hy).1
  have hi : isN zs.length (m : Int) = true := by unfold isN; simp; omega
  unfold chn3 costOf
  dsimp only
  rw [if_pos hi, parOf_at hy, chosen_tasks hy, List.flatMap_map]
  cases hb : (keyed zs i || y.par != z.par) with
  | true =>
    rw [flatMap_len_eq _ _ (tcount z), List.length_range, if_pos rfl, ← e1, ← e2]
    · rfl
    · intro x _
      unfold chn2
      rw [flatMap_len_eq _ _ 1 (fun t _ => by unfold chn1; simp), chosen_tasks hz, List.length_map, List.length_range, Nat.mul_one]
  | false =>
    rw [flatMap_len_eq _ _ 1, List.length_range, if_neg (by simp), Nat.mul_one, e2]
    intro x hx
    rw [List.mem_range] at hx
    have hpq : y.par = z.par := by
      rw [Bool.or_eq_false_iff] at hb
      simpa using hb.2
    unfold chn2
    rw [chosen_tasks hz, List.flatMap_map]
    have key : (List.range (tcount z)).flatMap (fun b : Nat => chn1 (tasks zs) false ((fst0 zs m + x : Nat) : Int) a ((fst0 zs i + b : Nat) : Int)) = (List.range (tcount z)).flatMap fun b : Nat => if ((x : Int) == (b : Int)) = true then [(((fst0 zs m + x : Nat) : Int), ((fst0 zs i + b : Nat) : Int), (a : Int))] else [] := by
      apply flatMap_cg
      intro b hb
      rw [List.mem_range] at hb
      unfold chn1
      rw [partOf_at (tasks_at hy hx), partOf_at (tasks_at hz hb), Bool.false_or]
    show ((List.range (tcount z)).flatMap (fun b : Nat => chn1 (tasks zs) false ((fst0 zs m + x : Nat) : Int) a ((fst0 zs i + b : Nat) : Int))).length = 1
    rw [key, one_of x (fun b => (((fst0 zs m + x : Nat) : Int), ((fst0 zs i + b : Nat) : Int), (a : Int))), if_pos (by omega)]
theorem cost_bd {zs : List Nd} {i : Nat} {p q : Int} (hp : 1 ≤ p ∧ p ≤ 4) (hq : 1 ≤ q ∧ q ≤ 4) : 0 ≤ p * q ∧ p * q ≤ 16 := ⟨Int.mul_nonneg (by omega) (by omega), by
  have : p * q ≤ 4 * 4 := Int.mul_le_mul hp.2 hq.2 (by omega) (by omega)
  omega⟩
/-! ### which nodes are read -/
def Mkd (U : List Int) (D : List Bool) : Prop := ∀ (k : Nat) (b : Bool), D[k]? = some b → (b = true ↔ (k : Int) ∈ U)
theorem Mkd.start (N : Nat) : Mkd [] (List.replicate N false) := by
  intro k b h
  rw [List.getElem?_replicate] at h
  split at h
  · cases h; simp
  · cases h
theorem Mkd.step {U : List Int} {D : List Bool} (h : Mkd U D) (k : Nat) : Mkd (U ++ [(k : Int)]) (D.set k true) := by
  intro j b hb
  rw [List.getElem?_set] at hb
  split at hb
  · rename_i e
    subst e
    split at hb
    · cases hb; simp
    · cases hb
  · rename_i e
    rw [h j b hb, List.mem_append, List.mem_singleton]
    constructor
    · exact .inl
    · rintro (h | h)
      · exact h
      · omega
end Go.Proofs.Ytbifajiigpalhaa

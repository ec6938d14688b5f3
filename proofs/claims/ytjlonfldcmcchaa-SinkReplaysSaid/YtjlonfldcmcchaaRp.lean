import Derived.Test.YtjlonfldcmcchaaKn
import Derived.IntWalk
import Derived.Test.YtjlonfldcmcchaaProg
import Derived.Test.YtjlonfldcmcchaaLs
import Derived.Outline
import Derived.StillTailTactics
import Derived.Deep.DeepCutAuto
import Derived.Deep.CutBlock
import Derived.Deep.LoopGhost
import Derived.Deep.QuietTactic
import Derived.BigQuiet
import Derived.Deep.RegionHeld3
import Derived.Deep.RegionLaw
set_option linter.unusedVariables false
set_option linter.unusedSimpArgs false
namespace Go.Proofs.Ytjlonfldcmcchaa
open Go.RowKit
theorem below_of {w w' : World} {R : List HP} (H : Hs w w' (Old w :: R)) : Below w.heap.size w w' := H.under_old
/-- What is staged as number 1 .. a. -/
def T (a : Nat) (L : List Int) : List (Int × List Rec) := (List.range a).map fun (i : Nat) => ((i : Int) + 1, [((i : Int) + 1, (0 : Int), L.getD (i + 1) 0)])
def Rc (a : Nat) (L : List Int) : List Rec := (List.range a).map fun (i : Nat) => ((i : Int) + 1, (0 : Int), L.getD (i + 1) 0)
theorem T.length (a : Nat) (L : List Int) : (T a L).length = a := by simp [T]
theorem Rc.length (a : Nat) (L : List Int) : (Rc a L).length = a := by simp [Rc]
theorem T.get (a : Nat) (L : List Int) (i : Nat) (h : i < a) : (T a L)[i]? = some ((i : Int) + 1, [((i : Int) + 1, (0 : Int), L.getD (i + 1) 0)]) := by
  simp [T, List.getElem?_range h]
theorem T.take (a k : Nat) (L : List Int) (h : k ≤ a) : (T a L).take k = T k L := by
  simp [T, ← List.map_take, List.take_range, Nat.min_eq_left h]
theorem T.flat (a : Nat) (L : List Int) : (T a L).flatMap (·.2) = Rc a L := by
  simp [T, Rc, List.flatMap_map, ← List.map_eq_flatMap]
theorem T.set (a b : Nat) (L : List Int) (v : Int) (h : a < b) : T a (L.set b v) = T a L := by
  unfold T
  refine List.map_congr_left fun i hi => ?_
  have : b ≠ i + 1 := by have := List.mem_range.1 hi; omega
  simp [List.getD, List.getElem?_set, this]
theorem Rc.set (a b : Nat) (L : List Int) (v : Int) (h : a < b) : Rc a (L.set b v) = Rc a L := by
  rw [← T.flat, ← T.flat, T.set a b L v h]
theorem T.succ (a : Nat) (L : List Int) : T (a + 1) L = T a L ++ [((a : Int) + 1, [((a : Int) + 1, (0 : Int), L.getD (a + 1) 0)])] := by
  simp [T, List.range_succ]
theorem T.top (a c : Nat) (L : List Int) : (⟨T a L, c⟩ : Pt).top = a := by
  cases a with
  | zero => rfl
  | succ a => exact top_of (s := ⟨T (a + 1) L, c⟩) (k := a) (T.length _ _) (T.get (a + 1) L a (by omega))
theorem T.last (a c : Nat) (L : List Int) (h : c ≤ a) : (⟨T a L, c⟩ : Pt).last = c := by
  unfold Pt.last
  cases c with
  | zero => rfl
  | succ c => simp [T.get a L c (by omega)]
theorem T.fresh (a c t : Nat) (L : List Int) (h1 : c ≤ t) (h2 : t ≤ a) : (⟨T a L, c⟩ : Pt).fresh t = (T t L).drop c := by
  unfold Pt.fresh
  simp only
  have key : ∀ x ∈ ((T a L).drop c).take (t - c), (fun x : Int × List Rec => decide (x.1 ≤ (t : Int))) x = true := by
    intro x hx
    rw [← List.drop_take, T.take a t L h2] at hx
    have := List.mem_of_mem_drop hx
    unfold T at this
    obtain ⟨i, hi, rfl⟩ := List.mem_map.1 this
    have := List.mem_range.1 hi
    simp
    omega
  rw [takeWhile_eq _ _ (t - c) key ?_]
  · rw [← T.take a t L h2, List.drop_take]
  · rcases Nat.lt_or_ge t a with h | h
    · right
      exact ⟨_, by rw [List.getElem?_drop, show c + (t - c) = t by omega]; exact T.get a L t h, by simp; omega⟩
    · left
      rw [List.length_drop, T.length]
      omega
theorem T.cut (a c t : Nat) (L : List Int) (h1 : c ≤ t) (h2 : t ≤ a) : ∀ k, t ≤ k → k ≤ a → cutAt (T a L) c t k = t
  | 0, h, _ => by simp [cutAt]; omega
  | k + 1, h, h' => by
    rw [cutAt, T.get a L k (by omega)]
    simp only [Option.map_some, Option.getD_some]
    split
    · rename_i hc
      exact T.cut a c t L h1 h2 k (by omega) (by omega)
    · rename_i hc
      omega
theorem T.any (a t : Nat) (L : List Int) (h1 : 0 < t) (h2 : t ≤ a) : (T a L).any (fun x => x.1 == (t : Int)) = true := by
  rw [List.any_eq_true]
  exact ⟨_, List.mem_of_getElem? (T.get a L (t - 1) (by omega)), by simp; omega⟩
theorem Rc.drop (c t : Nat) (L : List Int) (h : c ≤ t) : Rc c L ++ ((T t L).drop c).flatMap (·.2) = Rc t L := by
  rw [← T.flat, ← T.take t c L h, ← List.flatMap_append, List.take_append_drop, T.flat]
/-- The log behind a round. -/
def RL (a c : Nat) (L : List Int) : Lg := One 3 ⟨T a L, c⟩ (Rc c L)
theorem RL.ok (a c : Nat) (L : List Int) (h : c ≤ a) (h2 : a ≤ 100) : ((RL a c L).pt 3).Ok := by
  unfold RL
  rw [One.pt]
  exact ⟨by simp only [T.length]; exact h, by simp only [T.length]; omega⟩
theorem RL.put (a c : Nat) (L : List Int) (v : Int) (h : c ≤ a) (hl : a + 1 < L.length) : (RL a c L).put 3 ((a : Int) + 1) [((a : Int) + 1, 0, v)] = RL (a + 1) c (L.set (a + 1) v) := by
  unfold RL
  rw [One.put, Rc.set c _ L v (by omega), T.succ, T.set a _ L v (by omega)]
  simp [List.getD, hl]
theorem RL.commit (a c t : Nat) (L : List Int) (h1 : c ≤ t) (h2 : t ≤ a) : (RL a c L).commit 3 t = RL a t L := by
  unfold RL
  rw [One.commit, T.fresh a c t L h1 h2, Rc.drop c t L h1]
  have : c + (List.drop c (T t L)).length = t := by rw [List.length_drop, T.length]; omega
  simp only [this]
theorem RL.abort (a c : Nat) (L : List Int) (h : c ≤ a) : (RL a c L).abort 3 c = RL c c L := by
  unfold RL
  rw [One.abort]
  simp only
  rw [T.cut a c c L (Nat.le_refl _) h _ (by rw [T.length]; exact h) (by rw [T.length]; omega), T.take a c L h]
theorem info2 : (Try.prog.info? 2).map (fun i => (i.zero, i.size, i.bytes)) = some (some (.int .i64 0), 1, 8) := by kernel_rfl
theorem u8_in {x : Int} (h : (Lit.int .u8 x).wf = true) : 0 ≤ x ∧ x ≤ 255 := by
  simp [Lit.wf] at h
  exact h
theorem RL.putb (a b c : Nat) (L : List Int) (v : Int) (hb : b = a + 1) (h : c ≤ a) (hl : b < L.length) : (RL a c L).put 3 (b : Int) [((b : Int), 0, v)] = RL b c (L.set b v) := by
  subst hb
  exact RL.put a c L v h hl
theorem RL.commit_same (a : Nat) (L : List Int) : (RL a a L).pt 3 = ⟨T a L, a⟩ := by unfold RL; rw [One.pt]
theorem RL.pt (a c : Nat) (L : List Int) : (RL a c L).pt 3 = ⟨T a L, c⟩ := by unfold RL; rw [One.pt]
theorem RL.all (a c : Nat) (L : List Int) : (RL a c L).all = Rc c L := rfl
theorem RL.few (a c : Nat) (L : List Int) (h : c ≤ a) (ha : a ≤ 100) : (RL a c L).all.length + (((RL a c L).pt 3).l.flatMap (·.2)).length ≤ 1000000 := by
  rw [RL.all, RL.pt, T.flat, Rc.length, Rc.length]
  omega
end Go.Proofs.Ytjlonfldcmcchaa

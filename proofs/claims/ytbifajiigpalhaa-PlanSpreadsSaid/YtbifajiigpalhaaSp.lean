import Derived.Test.YtbifajiigpalhaaPc
import Derived.IntWalk
import Derived.Laws.Bits64
import Derived.Test.YtbifajiigpalhaaProg
import Derived.Test.YtbifajiigpalhaaLs
import Derived.Outline
import Derived.StillTailTactics
import Derived.Deep.DeepCutAuto
import Derived.Deep.CutBlock
import Derived.Deep.LoopGhost
import Derived.Deep.QuietTactic
import Derived.BigQuiet
import Derived.Deep.RegionHeld3
import Derived.Deep.RegionLaw
set_option linter.unusedVariables false
set_option linter.unusedSimpArgs false
namespace Go.Proofs.Ytbifajiigpalhaa
open Go.RowKit
theorem part_in (p : Int) (hp : 1 ≤ p ∧ p ≤ 4) : ∀ i < 16, 0 ≤ partG ((i : Nat) : Int) p ∧ partG ((i : Nat) : Int) p < p := by
  rcases (show p = 1 ∨ p = 2 ∨ p = 3 ∨ p = 4 by omega) with rfl | rfl | rfl | rfl <;> decide
def grp (k : Nat) : Nat := (k * 11400714819323198485 % 18446744073709551616) / 1152921504606846976
def full (b : Nat) : Bool := (List.range 16).all fun g => (List.range 100).any fun i => grp (100 * b + i) == g
theorem full_all : (List.range 657).all full = true := by decide +kernel
theorem hits (a g : Nat) (ha : a ≤ 65535) (hg : g < 16) : ∃ i, i < 200 ∧ grp (a + i) = g := by
  have h := List.all_eq_true.1 full_all ((a + 99) / 100) (List.mem_range.2 (by omega))
  unfold full at h
  have h := List.all_eq_true.1 h g (List.mem_range.2 hg)
  obtain ⟨i, hi, h⟩ := List.any_eq_true.1 h
  rw [List.mem_range] at hi
  rw [beq_iff_eq] at h
  exact ⟨100 * ((a + 99) / 100) + i - a, by omega, by rw [← h]; congr 1; omega⟩
theorem group_nat (k : Nat) (hk : k < 9223372036854775808) : group (k : Int) = (grp k : Int) := by
  unfold group grp
  rw [show IntKind.u64.wrap (k : Int) = (k : Int) from by rw [IntKind.wrap_u64]; omega, IntKind.wrap_u64]
  rw [IntWalk.wrap64_in _ (by omega)]
  omega
theorem grp_lt (k : Nat) : grp k < 16 := by unfold grp; omega
theorem and_ffff (x : Int) : ∃ a : Nat, a ≤ 65535 ∧ bits .and .i64 x 65535 = (a : Int) := by
  refine ⟨(BitVec.ofInt 64 x &&& BitVec.ofInt 64 65535).toNat, ?_, ?_⟩
  · rw [BitVec.toNat_and]
    exact Nat.le_trans Nat.and_le_right (by decide)
  · show IntKind.i64.wrap ((BitVec.ofInt 64 x &&& BitVec.ofInt 64 65535).toNat : Int) = _
    have h : (BitVec.ofInt 64 x &&& BitVec.ofInt 64 65535).toNat ≤ 65535 := by
      rw [BitVec.toNat_and]
      exact Nat.le_trans Nat.and_le_right (by decide)
    exact IntWalk.i64_in _ (by omega)
/-- Of each part there is a group. -/
theorem part_hit (p : Int) (hp : 1 ≤ p ∧ p ≤ 4) : ∀ i : Nat, i < 4 → (i : Int) < p → ∃ g : Nat, g < 16 ∧ partG (g : Int) p = (i : Int) := by
  rcases (show p = 1 ∨ p = 2 ∨ p = 3 ∨ p = 4 by omega) with rfl | rfl | rfl | rfl <;> decide
/-- The counts behind i keys. -/
structure Cnt (a i : Nat) (l : List Int) : Prop where
  len : l.length = 16
  bd : ∀ (g : Nat) (x : Int), l[g]? = some x → 0 ≤ x ∧ x ≤ i
  hit : ∀ j < i, ∀ x : Int, l[grp (a + j)]? = some x → 1 ≤ x
theorem Cnt.start (a : Nat) : Cnt a 0 (List.replicate 16 0) := ⟨rfl, fun g x h => by rw [List.getElem?_replicate] at h; split at h <;> simp at h; omega, fun j h => absurd h (by omega)⟩
theorem Cnt.next {a i : Nat} {l : List Int} (h : Cnt a i l) (x : Int) (hx : l[grp (a + i)]? = some x) : Cnt a (i + 1) (l.set (grp (a + i)) (x + 1)) := by
  have hb := h.bd _ _ hx
  refine ⟨by rw [List.length_set]; exact h.len, fun g y hy => ?_, fun j hj y hy => ?_⟩
  · rw [List.getElem?_set] at hy
    split at hy
    · split at hy
      · injection hy with hy; omega
      · cases hy
    · have := h.bd g y hy; omega
  · rw [List.getElem?_set] at hy
    split at hy
    · split at hy
      · injection hy with hy; omega
      · cases hy
    · rename_i hne
      rcases Nat.lt_or_ge j i with hji | hji
      · exact h.hit j hji y hy
      · obtain rfl : j = i := by omega
        exact absurd rfl hne
theorem Cnt.whole {a : Nat} {l : List Int} (h : Cnt a 200 l) (ha : a ≤ 65535) (g : Nat) (x : Int) (hx : l[g]? = some x) : 1 ≤ x ∧ x ≤ 200 := by
  have hg : g < 16 := by have := (List.getElem?_eq_some_iff.1 hx).1; rw [h.len] at this; exact this
  obtain ⟨i, hi, he⟩ := hits a g ha hg
  exact ⟨h.hit i hi x (by rw [he]; exact hx), (h.bd g x hx).2⟩
structure Prt (p : Int) (i : Nat) (l : List Int) : Prop where
  len : (l.length : Int) = p
  bd : ∀ (g : Nat) (x : Int), l[g]? = some x → 0 ≤ x ∧ x ≤ 200 * i
  hit : ∀ j < i, ∀ x : Int, l[(partG ((j : Nat) : Int) p).toNat]? = some x → 1 ≤ x
theorem Prt.start (P : Nat) : Prt P 0 (List.replicate P 0) := ⟨by rw [List.length_replicate], fun g x h => by rw [List.getElem?_replicate] at h; split at h <;> simp at h; omega, fun j h => absurd h (by omega)⟩
theorem Prt.next {p : Int} {i : Nat} {l : List Int} (h : Prt p i l) (x y : Int) (k : Nat) (hk : (partG (i : Int) p).toNat = k) (hx : l[k]? = some x) (hy : 1 ≤ y ∧ y ≤ 200) : Prt p (i + 1) (l.set k (x + y)) := by
  have hb := h.bd _ _ hx
  refine ⟨by rw [List.length_set]; exact h.len, fun g z hz => ?_, fun j hj z hz => ?_⟩
  · rw [List.getElem?_set] at hz
    split at hz
    · split at hz
      · injection hz with hz; omega
      · cases hz
    · have := h.bd g z hz; omega
  · rw [List.getElem?_set] at hz
    split at hz
    · split at hz
      · injection hz with hz; omega
      · cases hz
    · rename_i hne
      rcases Nat.lt_or_ge j i with hji | hji
      · exact h.hit j hji z hz
      · obtain rfl : j = i := by omega
        exact absurd hk.symm hne
end Go.Proofs.Ytbifajiigpalhaa

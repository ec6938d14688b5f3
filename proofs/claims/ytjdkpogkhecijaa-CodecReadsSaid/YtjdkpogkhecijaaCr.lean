import Derived.Test.YtjdkpogkhecijaaMd
import Derived.Test.YtjdkpogkhecijaaProg
import Derived.Test.YtjdkpogkhecijaaLs
import Derived.Outline
import Derived.StillTailTactics
import Derived.Deep.DeepCutAuto
import Derived.Deep.CutBlock
import Derived.Deep.LoopGhost
import Derived.Deep.QuietTactic
import Derived.BigQuiet
import Derived.Deep.RegionHeld3
import Derived.Deep.RegionLaw
set_option linter.unusedVariables false
set_option linter.unusedSimpArgs false
namespace Go.Proofs.Ytjdkpogkhecijaa
open Go.RowKit
/-! ### the sum -/
/-- One bit of the sum. -/
def stp (c : Nat) : Nat := c / 2 ^^^ (if c % 2 = 1 then 3988292384 else 0)
def stp4 (c : Nat) : Nat := stp (stp (stp (stp c)))
def stp8 (c : Nat) : Nat := stp4 (stp4 c)
theorem xor_half (a b : Nat) : (a ^^^ b) / 2 = a / 2 ^^^ b / 2 := by
  have := @Nat.xor_div_two_pow a b 1
  simpa using this
theorem xor_odd (a b : Nat) : (a ^^^ b) % 2 = (a % 2 + b % 2) % 2 := by
  have h := @Nat.xor_mod_two_pow a b 1
  have e : (2 : Nat) ^ 1 = 2 := rfl
  rw [e] at h
  rw [h]
  rcases Nat.mod_two_eq_zero_or_one a with h1 | h1 <;> rcases Nat.mod_two_eq_zero_or_one b with h2 | h2 <;> rw [h1, h2] <;> rfl
theorem xor4 (a b c d : Nat) : (a ^^^ b) ^^^ (c ^^^ d) = (a ^^^ c) ^^^ (b ^^^ d) := by
  rw [Nat.xor_assoc, Nat.xor_assoc, ← Nat.xor_assoc b, Nat.xor_comm b c, Nat.xor_assoc c]
theorem stp_xor (a b : Nat) : stp (a ^^^ b) = stp a ^^^ stp b := by
  unfold stp
  rw [xor_half, xor_odd, xor4]
  congr 1
  rcases Nat.mod_two_eq_zero_or_one a with h1 | h1 <;> rcases Nat.mod_two_eq_zero_or_one b with h2 | h2 <;> rw [h1, h2] <;> simp
theorem stp4_xor (a b : Nat) : stp4 (a ^^^ b) = stp4 a ^^^ stp4 b := by unfold stp4; rw [stp_xor, stp_xor, stp_xor, stp_xor]
theorem stp_dbl (a : Nat) : stp (2 * a) = a := by
  unfold stp
  rw [if_neg (by omega), Nat.xor_zero]
  omega
theorem stp4_up (a : Nat) : stp4 (16 * a) = a := by
  unfold stp4
  rw [show 16 * a = 2 * (2 * (2 * (2 * a))) by omega, stp_dbl, stp_dbl, stp_dbl, stp_dbl]
theorem split16 (c : Nat) : c = 16 * (c / 16) ^^^ c % 16 := by
  apply Nat.eq_of_testBit_eq
  intro i
  rw [Nat.testBit_xor, show 16 * (c / 16) = 2 ^ 4 * (c / 2 ^ 4) from rfl, show c % 16 = c % 2 ^ 4 from rfl, Nat.testBit_two_pow_mul, Nat.testBit_mod_two_pow, Nat.testBit_div_two_pow]
  by_cases hi : 4 ≤ i
  · rw [decide_eq_true hi, decide_eq_false (by omega : ¬ i < 4), Bool.true_and, Bool.false_and, Bool.xor_false]
    congr 1
    omega
  · rw [decide_eq_false hi, decide_eq_true (by omega : i < 4), Bool.true_and, Bool.false_and, Bool.false_xor]
theorem stp4_tab (c : Nat) : stp4 c = c / 16 ^^^ stp4 (c % 16) := by
  have h : stp4 c = stp4 (16 * (c / 16) ^^^ c % 16) := by rw [← split16]
  rw [h, stp4_xor, stp4_up]
theorem stp_lt (c : Nat) (h : c < 4294967296) : stp c < 4294967296 := by
  unfold stp
  exact Nat.xor_lt_two_pow (n := 32) (by omega) (by split <;> omega)
theorem stp4_lt (c : Nat) (h : c < 4294967296) : stp4 c < 4294967296 := stp_lt _ (stp_lt _ (stp_lt _ (stp_lt _ h)))
theorem stp8_lt (c : Nat) (h : c < 4294967296) : stp8 c < 4294967296 := stp4_lt _ (stp4_lt _ h)
def crc1 (c : Nat) (x : Int) : Nat := stp8 (c ^^^ x.toNat)
def crcS (l : List Int) : Nat := l.foldl crc1 4294967295
def crc (l : List Int) : Nat := 4294967295 - crcS l
theorem crcS_snoc (l : List Int) (x : Int) : crcS (l ++ [x]) = stp8 (crcS l ^^^ x.toNat) := by unfold crcS; rw [List.foldl_append]; rfl
theorem crcS_lt {l : List Int} (h : Byt l) : crcS l < 4294967296 := by
  unfold crcS
  have : ∀ (l : List Int) (c : Nat), Byt l → c < 4294967296 → l.foldl crc1 c < 4294967296 := by
    intro l
    induction l with
    | nil => intro c _ h; exact h
    | cons x r ih =>
      intro c hb hc
      refine ih _ (fun y hy => hb y (by simp [hy])) (stp8_lt _ ?_)
      have := hb x (by simp)
      exact Nat.xor_lt_two_pow (n := 32) hc (by omega)
  exact this l _ h (by omega)
theorem crc_lt {l : List Int} (h : Byt l) : crc l < 4294967296 := by unfold crc; omega
def itr : Nat → Nat → Nat
  | 0, c => c
  | n + 1, c => itr n (stp c)
theorem stp_yes {c : Nat} (h : c % 2 = 1) : stp c = c / 2 ^^^ 3988292384 := by unfold stp; rw [if_pos h]
theorem stp_no {c : Nat} (h : c % 2 = 0) : stp c = c / 2 := by unfold stp; rw [if_neg (by omega), Nat.xor_zero]
theorem nat_flip (n x : Nat) (h : x < 2 ^ n) : (2 ^ n - 1) ^^^ x = 2 ^ n - 1 - x := by
  apply Nat.eq_of_testBit_eq
  intro i
  rw [Nat.testBit_xor, Nat.testBit_two_pow_sub_one, Nat.sub_sub, Nat.add_comm 1 x, Nat.testBit_two_pow_sub_succ h]
  by_cases hi : i < n
  · rw [decide_eq_true hi, Bool.true_xor, Bool.true_and]
  · rw [decide_eq_false hi, Bool.false_xor, Bool.false_and]
    exact Nat.testBit_lt_two_pow (Nat.lt_of_lt_of_le h (Nat.pow_le_pow_right (by omega) (by omega)))
theorem u32_flip (c : Nat) (h : c < 4294967296) : bits .xor .u32 IntKind.u32.max (c : Int) = ((4294967295 - c : Nat) : Int) := by
  have h1 := u32_xor_nat 4294967295 c (by omega) h
  rw [nat_flip 32 c h] at h1
  exact h1
end Go.Proofs.Ytjdkpogkhecijaa

import Derived.Test.YtlhgmfdmkckmhaaKn
import Derived.Test.YtlhgmfdmkckmhaaProg
import Derived.Test.YtlhgmfdmkckmhaaLs
import Derived.Outline
import Derived.StillTailTactics
import Derived.Deep.DeepCutAuto
import Derived.Deep.CutBlock
import Derived.Deep.LoopGhost
import Derived.Deep.QuietTactic
import Derived.BigQuiet
import Derived.Deep.RegionHeld3
import Derived.Deep.RegionLaw
set_option linter.unusedVariables false
set_option linter.unusedSimpArgs false
namespace Go.Proofs.Ytlhgmfdmkckmhaa
open Go.RowKit
/-! ### GateNewer's plain law: finitely many cases -/
instance (s : Gt) (N : Nat) : Decidable (s.Ok N) := by unfold Gt.Ok; infer_instance
/-- The gate after j barriers of checkpoint 4. -/
def run1 (n : Nat) (ov : Bool) : Nat → Gt
  | 0 => Gt.new n
  | j + 1 => ((run1 n ov j).take j (barF 4 ov)).1
/-- The gate after j barriers of checkpoint 7, from the last channel down. -/
def run2 (n c : Nat) (ov nw : Bool) : Nat → Gt
  | 0 => run1 n ov c
  | j + 1 => ((run2 n c ov nw j).take ((n - 1 - j : Nat) : Int) (barF 7 nw)).1
def stp2 (n c : Nat) (ov nw : Bool) (j : Nat) : Stp := ((run2 n c ov nw j).take ((n - 1 - j : Nat) : Int) (barF 7 nw)).2.1
def kept2 (n c : Nat) (ov nw : Bool) : Nat → Nat
  | 0 => 0
  | j + 1 => kept2 n c ov nw j + (if (stp2 n c ov nw j).1 = 3 then 1 else 0)
theorem newer1 : ∀ n < 8, 2 ≤ n → ∀ ov : Bool, ∀ j < n - 1, (run1 n ov j).Ok n ∧ (run1 n ov j).cap.length = 0 ∧ ((run1 n ov j).take (j : Int) (barF 4 ov)).2.2 = 0 ∧ (run1 n ov (j + 1)).blocked (j : Int) = !ov := by decide +kernel
theorem newer2 : ∀ n < 8, 2 ≤ n → ∀ ov : Bool, ∀ c < n, 1 ≤ c → (run1 n ov c).under = 4 ∧ (run1 n ov c).last = 4 := by decide +kernel
def N3a (n : Nat) (nw : Bool) (j : Nat) (x : Stp) : Prop := (x.1 = 3 → x.2.2.2.1 = 7 ∧ nw = decide (j = 0) ∧ (nw = false → j + 1 = n)) ∧ (x.2.2.2.2 = 7 ↔ j + 1 = n)
instance (n : Nat) (nw : Bool) (j : Nat) (x : Stp) : Decidable (N3a n nw j x) := by unfold N3a; infer_instance
def N3b (n : Nat) (nw : Bool) (j : Nat) (g : Gt) : Prop := ∀ k < n, g.blocked (k : Int) = (!nw && decide (j + 1 < n) && decide (n - 1 - j ≤ k))
instance (n : Nat) (nw : Bool) (j : Nat) (g : Gt) : Decidable (N3b n nw j g) := by unfold N3b; infer_instance
def N3 (n c : Nat) (ov nw : Bool) (j : Nat) : Prop := (run2 n c ov nw j).Ok n ∧ (run2 n c ov nw j).cap.length = 0 ∧ ((run2 n c ov nw j).take ((n - 1 - j : Nat) : Int) (barF 7 nw)).2.2 = 0 ∧ N3a n nw j (stp2 n c ov nw j) ∧ N3b n nw j (run2 n c ov nw (j + 1))
instance (n c : Nat) (ov nw : Bool) (j : Nat) : Decidable (N3 n c ov nw j) := by unfold N3; infer_instance
theorem newer3 : ∀ n < 8, 2 ≤ n → ∀ c < n, 1 ≤ c → ∀ ov nw : Bool, ∀ j < n, N3 n c ov nw j := by decide +kernel
def N4 (n c : Nat) (ov nw : Bool) : Prop := (run2 n c ov nw n).Ok n ∧ (run2 n c ov nw n).cap.length = 0 ∧ kept2 n c ov nw n = 1 ∧ ((run2 n c ov nw n).take ((n - 1 : Nat) : Int) (barF 4 ov)).2 = (noStep, 0) ∧
  ((run2 n c ov nw n).take ((n - 1 : Nat) : Int) (barF 4 ov)).1.under = 0 ∧ ((run2 n c ov nw n).take ((n - 1 : Nat) : Int) (barF 4 ov)).1.last = 7
instance (n c : Nat) (ov nw : Bool) : Decidable (N4 n c ov nw) := by unfold N4; infer_instance
theorem newer4 : ∀ n < 8, 2 ≤ n → ∀ c < n, 1 ≤ c → ∀ ov nw : Bool, N4 n c ov nw := by decide +kernel
theorem run1_zero (n : Nat) (ov : Bool) : run1 n ov 0 = Gt.new n := rfl
end Go.Proofs.Ytlhgmfdmkckmhaa

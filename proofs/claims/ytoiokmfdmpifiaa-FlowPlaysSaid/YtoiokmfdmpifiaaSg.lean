import Derived.Test.YtoiokmfdmpifiaaProg
import Derived.Test.YtoiokmfdmpifiaaLs
import Derived.Outline
import Derived.StillTailTactics
import Derived.Deep.DeepCutAuto
import Derived.Deep.CutBlock
import Derived.Deep.LoopGhost
import Derived.Deep.QuietTactic
import Derived.BigQuiet
import Derived.Deep.RegionHeld3
import Derived.Deep.RegionLaw
set_option linter.unusedVariables false
set_option linter.unusedSimpArgs false
namespace Go.Proofs.Ytoiokmfdmpifiaa
open Go.RowKit
/-- a, a+1, .. : k of them. -/
def seg (a : Nat) : Nat → List Int
  | 0 => []
  | k + 1 => (a : Int) :: seg (a + 1) k
theorem seg_snoc : ∀ (k a : Nat), seg a k ++ [((a + k : Nat) : Int)] = seg a (k + 1)
  | 0, a => rfl
  | k + 1, a => by
    show (a : Int) :: (seg (a + 1) k ++ [((a + (k + 1) : Nat) : Int)]) = (a : Int) :: seg (a + 1) (k + 1)
    rw [← seg_snoc k (a + 1)]
    congr 4
    omega
theorem seg_length : ∀ (k a : Nat), (seg a k).length = k
  | 0, a => rfl
  | k + 1, a => by rw [seg, List.length_cons, seg_length k (a + 1)]
theorem seg_get : ∀ (k a i : Nat), i < k → (seg a k)[i]? = some (((a + i : Nat) : Int))
  | 0, a, i, h => by omega
  | k + 1, a, 0, h => rfl
  | k + 1, a, i + 1, h => by
    rw [seg, List.getElem?_cons_succ, seg_get k (a + 1) i (by omega)]
    congr 2
    omega
def EStep : Enc (Int × Int × Int × Int) := (Enc.num .i64).pair ((Enc.num .i64).pair ((Enc.num .u64).pair (Enc.num .u64)))
end Go.Proofs.Ytoiokmfdmpifiaa

import Derived.Test.YtbifajiigpalhaaCb
import Derived.Test.YtbifajiigpalhaaProg
import Derived.Test.YtbifajiigpalhaaLs
import Derived.Outline
import Derived.StillTailTactics
import Derived.Deep.DeepCutAuto
import Derived.Deep.CutBlock
import Derived.Deep.LoopGhost
import Derived.Deep.QuietTactic
import Derived.BigQuiet
import Derived.Deep.RegionHeld3
import Derived.Deep.RegionLaw
set_option linter.unusedVariables false
set_option linter.unusedSimpArgs false
namespace Go.Proofs.Ytbifajiigpalhaa
open Go.RowKit
theorem plancounts_walk2 (jv : Value) (zs : List Nd) (W : World) (hx : JobX W jv zs) : Calls Try.prog 6 #[.agg #[jv]] W fun e w' => e = .returned (.bool true) ∧ Below W.heap.size W w' := plancounts_walk W jv zs hx
end Go.Proofs.Ytbifajiigpalhaa

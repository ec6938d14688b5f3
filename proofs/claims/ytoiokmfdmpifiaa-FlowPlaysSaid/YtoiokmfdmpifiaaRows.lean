/-
  No cell of these rows narrows 'for every input' (looked for: loops, veiled, ifaces, maps, wideKeys, modest, calm, conditions, laid).
  DERIVED. THE GIVEN ROWS OF THIS SEAT. 5 by the template 'for every input the law returns true; each argument reads behind the call as it read before'; 0 by the template 'total and deterministic' (their statements: YtoiokmfdmpifiaaTotals.lean).
  GIVEN WITH THE SEED: the statements are not yours to turn. If you find one false, say at which input.
  Laid BY PROGRAM, IN A SANDBOX (cutbox-rows.mjs): the forced cells as the released guide's own fill.sh prints them over the translation b158eb0cdf435899… (all of the seat's roots in one cut). By AI agents, Wed Nov 11 2026. No macro, syntax, notation, axiom, sorry.
-/
import Derived.Test.YtoiokmfdmpifiaaChecked
import GoSem.Claim
import GoSem.ClaimJoined
import GoSem.ClaimMapViews
import Derived.JoinedTies
import Derived.KernelRfl
namespace Go.Proofs.Ytoiokmfdmpifiaa
/- THE CELL 'sum', in the pinned program and in every row, IS THE sha256 OF THE DUMP (.gsa) THAT YtoiokmfdmpifiaaProg.lean LOADS. Nothing in Lean hashes anything: it is a label: what it is worth is what the hold of that sum in a sandbox is worth. -/
noncomputable def Try.pinned : Pinned := { name := "ytoiokmfdmpifiaa", sum := "b158eb0cdf435899ec1ea83ca86fec88c77e2d07c74ab4773091c5a82cd9b4d7", checked := Try.checked }
namespace Rows
def none {H : Type} : Left H := { results := [], args := [] }

/-- 'leatlaw6.FlowMoves': WHATEVER THE INPUT: true; the input reads as it did. -/
def flowMovesSpec : ChangeSpec := { name := "flowMoves", fn := fun _ => fun
  | [d1, d2] => { results := [.lit (.bool true)], args := [d1, d2] }
  | _ => none }
def flowMovesRow : OpenClaim := { program := "ytoiokmfdmpifiaa", sum := "b158eb0cdf435899ec1ea83ca86fec88c77e2d07c74ab4773091c5a82cd9b4d7", func := "leat/leatlaw6.FlowMoves", spec := "flowMoves", apart := false }
def FlowMovesSaid : Prop := flowMovesRow.holds Try.pinned (OpenSpec.ofChange flowMovesSpec)

/-- ITS FALSE NEIGHBOUR: 'it returns false'. Refute it at one input. -/
def flowMovesWrong : ChangeSpec := { name := "flowMoves", fn := fun _ => fun
  | [d1, d2] => { results := [.lit (.bool false)], args := [d1, d2] }
  | _ => none }
def FlowMovesWrongFalsely : Prop := flowMovesRow.holds Try.pinned (OpenSpec.ofChange flowMovesWrong)

/-- 'leatlaw6.FlowEpochs': WHATEVER THE INPUT: true; the input reads as it did. -/
def flowEpochsSpec : ChangeSpec := { name := "flowEpochs", fn := fun _ => fun
  | [d1, d2, d3] => { results := [.lit (.bool true)], args := [d1, d2, d3] }
  | _ => none }
def flowEpochsRow : OpenClaim := { program := "ytoiokmfdmpifiaa", sum := "b158eb0cdf435899ec1ea83ca86fec88c77e2d07c74ab4773091c5a82cd9b4d7", func := "leat/leatlaw6.FlowEpochs", spec := "flowEpochs", apart := false }
def FlowEpochsSaid : Prop := flowEpochsRow.holds Try.pinned (OpenSpec.ofChange flowEpochsSpec)

/-- ITS FALSE NEIGHBOUR: 'it returns false'. Refute it at one input. -/
def flowEpochsWrong : ChangeSpec := { name := "flowEpochs", fn := fun _ => fun
  | [d1, d2, d3] => { results := [.lit (.bool false)], args := [d1, d2, d3] }
  | _ => none }
def FlowEpochsWrongFalsely : Prop := flowEpochsRow.holds Try.pinned (OpenSpec.ofChange flowEpochsWrong)

/-- 'leatlaw6.FlowDrains': WHATEVER THE INPUT: true; the input reads as it did. -/
def flowDrainsSpec : ChangeSpec := { name := "flowDrains", fn := fun _ => fun
  | [d1, d2, d3] => { results := [.lit (.bool true)], args := [d1, d2, d3] }
  | _ => none }
def flowDrainsRow : OpenClaim := { program := "ytoiokmfdmpifiaa", sum := "b158eb0cdf435899ec1ea83ca86fec88c77e2d07c74ab4773091c5a82cd9b4d7", func := "leat/leatlaw6.FlowDrains", spec := "flowDrains", apart := false }
def FlowDrainsSaid : Prop := flowDrainsRow.holds Try.pinned (OpenSpec.ofChange flowDrainsSpec)

/-- ITS FALSE NEIGHBOUR: 'it returns false'. Refute it at one input. -/
def flowDrainsWrong : ChangeSpec := { name := "flowDrains", fn := fun _ => fun
  | [d1, d2, d3] => { results := [.lit (.bool false)], args := [d1, d2, d3] }
  | _ => none }
def FlowDrainsWrongFalsely : Prop := flowDrainsRow.holds Try.pinned (OpenSpec.ofChange flowDrainsWrong)

/-- 'leatlaw6.FlowHolds': WHATEVER THE INPUT: true; the input reads as it did. -/
def flowHoldsSpec : ChangeSpec := { name := "flowHolds", fn := fun _ => fun
  | [d1, d2] => { results := [.lit (.bool true)], args := [d1, d2] }
  | _ => none }
def flowHoldsRow : OpenClaim := { program := "ytoiokmfdmpifiaa", sum := "b158eb0cdf435899ec1ea83ca86fec88c77e2d07c74ab4773091c5a82cd9b4d7", func := "leat/leatlaw6.FlowHolds", spec := "flowHolds", apart := false }
def FlowHoldsSaid : Prop := flowHoldsRow.holds Try.pinned (OpenSpec.ofChange flowHoldsSpec)

/-- ITS FALSE NEIGHBOUR: 'it returns false'. Refute it at one input. -/
def flowHoldsWrong : ChangeSpec := { name := "flowHolds", fn := fun _ => fun
  | [d1, d2] => { results := [.lit (.bool false)], args := [d1, d2] }
  | _ => none }
def FlowHoldsWrongFalsely : Prop := flowHoldsRow.holds Try.pinned (OpenSpec.ofChange flowHoldsWrong)

/-- 'leatlaw6.FlowPlays': WHATEVER THE INPUT: true; the input reads as it did. -/
def flowPlaysSpec : ChangeSpec := { name := "flowPlays", fn := fun _ => fun
  | [d1, d2, d3] => { results := [.lit (.bool true)], args := [d1, d2, d3] }
  | _ => none }
def flowPlaysRow : OpenClaim := { program := "ytoiokmfdmpifiaa", sum := "b158eb0cdf435899ec1ea83ca86fec88c77e2d07c74ab4773091c5a82cd9b4d7", func := "leat/leatlaw6.FlowPlays", spec := "flowPlays", apart := false }
def FlowPlaysSaid : Prop := flowPlaysRow.holds Try.pinned (OpenSpec.ofChange flowPlaysSpec)

/-- ITS FALSE NEIGHBOUR: 'it returns false'. Refute it at one input. -/
def flowPlaysWrong : ChangeSpec := { name := "flowPlays", fn := fun _ => fun
  | [d1, d2, d3] => { results := [.lit (.bool false)], args := [d1, d2, d3] }
  | _ => none }
def FlowPlaysWrongFalsely : Prop := flowPlaysRow.holds Try.pinned (OpenSpec.ofChange flowPlaysWrong)

/- THE SECOND FORM. 'bulk': how many values and letters a reading holds, each counted each time it is reached (what is shared counts as often as it is met; a slice's spare places count too). A statement '..UptoSaid' is the law's where the arguments, and the package variables that the reading takes, are together of bulk at most 1048576: NARROWER than '..Said'. Prove '..Said' where nothing that the law and all that it calls make is longer than what came in: it says more and counts as full. Else prove '..UptoSaid'. A law counts once. -/
mutual
def uptoBulk {H : Type} : DataW H → Nat
  | .lit (.string bytes) => bytes.length + 1
  | .lit _ => 1
  | .nil => 1
  | .ptr d => uptoBulk d + 1
  | .slice elems spare => uptoBulkAll elems + uptoBulkAll spare + 1
  | .agg parts => uptoBulkAll parts + 1
  | .iface _ d => uptoBulk d + 1
  | .map entries => uptoBulkEntries entries + 1
  | .held _ => 1
def uptoBulkAll {H : Type} : List (DataW H) → Nat
  | [] => 0
  | d :: r => uptoBulk d + uptoBulkAll r
def uptoBulkEntries {H : Type} : List (Lit × DataW H) → Nat
  | [] => 0
  | x :: r => uptoBulkEntry x + uptoBulkEntries r
def uptoBulkEntry {H : Type} : Lit × DataW H → Nat
  | (.string bytes, d) => bytes.length + uptoBulk d + 1
  | (_, d) => uptoBulk d + 1
 end
def uptoSmall : (H : Type) → List (DataW H) → Bool := fun _ ds => decide (uptoBulkAll ds ≤ 1048576)
def OpenSpec.upto (s : _root_.Go.ChangeSpec) : _root_.Go.OpenSpec := { _root_.Go.OpenSpec.ofChange s with cond := some uptoSmall }

/-- 'leatlaw6.FlowMoves', WHERE WHAT IT READS IS OF BULK AT MOST 1048576: true; the input reads as it did. -/
def flowMovesUptoRow : OpenClaim := { program := "ytoiokmfdmpifiaa", sum := "b158eb0cdf435899ec1ea83ca86fec88c77e2d07c74ab4773091c5a82cd9b4d7", func := "leat/leatlaw6.FlowMoves", spec := "flowMoves", apart := false, narrowed := true }
def FlowMovesUptoSaid : Prop := flowMovesUptoRow.holds Try.pinned (OpenSpec.upto flowMovesSpec)

/-- 'leatlaw6.FlowEpochs', WHERE WHAT IT READS IS OF BULK AT MOST 1048576: true; the input reads as it did. -/
def flowEpochsUptoRow : OpenClaim := { program := "ytoiokmfdmpifiaa", sum := "b158eb0cdf435899ec1ea83ca86fec88c77e2d07c74ab4773091c5a82cd9b4d7", func := "leat/leatlaw6.FlowEpochs", spec := "flowEpochs", apart := false, narrowed := true }
def FlowEpochsUptoSaid : Prop := flowEpochsUptoRow.holds Try.pinned (OpenSpec.upto flowEpochsSpec)

/-- 'leatlaw6.FlowDrains', WHERE WHAT IT READS IS OF BULK AT MOST 1048576: true; the input reads as it did. -/
def flowDrainsUptoRow : OpenClaim := { program := "ytoiokmfdmpifiaa", sum := "b158eb0cdf435899ec1ea83ca86fec88c77e2d07c74ab4773091c5a82cd9b4d7", func := "leat/leatlaw6.FlowDrains", spec := "flowDrains", apart := false, narrowed := true }
def FlowDrainsUptoSaid : Prop := flowDrainsUptoRow.holds Try.pinned (OpenSpec.upto flowDrainsSpec)

/-- 'leatlaw6.FlowHolds', WHERE WHAT IT READS IS OF BULK AT MOST 1048576: true; the input reads as it did. -/
def flowHoldsUptoRow : OpenClaim := { program := "ytoiokmfdmpifiaa", sum := "b158eb0cdf435899ec1ea83ca86fec88c77e2d07c74ab4773091c5a82cd9b4d7", func := "leat/leatlaw6.FlowHolds", spec := "flowHolds", apart := false, narrowed := true }
def FlowHoldsUptoSaid : Prop := flowHoldsUptoRow.holds Try.pinned (OpenSpec.upto flowHoldsSpec)

/-- 'leatlaw6.FlowPlays', WHERE WHAT IT READS IS OF BULK AT MOST 1048576: true; the input reads as it did. -/
def flowPlaysUptoRow : OpenClaim := { program := "ytoiokmfdmpifiaa", sum := "b158eb0cdf435899ec1ea83ca86fec88c77e2d07c74ab4773091c5a82cd9b4d7", func := "leat/leatlaw6.FlowPlays", spec := "flowPlays", apart := false, narrowed := true }
def FlowPlaysUptoSaid : Prop := flowPlaysUptoRow.holds Try.pinned (OpenSpec.upto flowPlaysSpec)

end Rows
end Go.Proofs.Ytoiokmfdmpifiaa

/-
  No cell of these rows narrows 'for every input' (looked for: loops, veiled, ifaces, maps, wideKeys, modest, calm, conditions, laid).
  DERIVED. THE GIVEN ROWS OF THIS SEAT. 5 by the template 'for every input the law returns true; each argument reads behind the call as it read before'; 0 by the template 'total and deterministic' (their statements: YtlhgmfdmkckmhaaTotals.lean).
  GIVEN WITH THE SEED: the statements are not yours to turn. If you find one false, say at which input.
  Laid BY PROGRAM, IN A SANDBOX (cutbox-rows.mjs): the forced cells as the released guide's own fill.sh prints them over the translation 0e79a40cb728a567… (all of the seat's roots in one cut). By AI agents, Wed Nov 11 2026. No macro, syntax, notation, axiom, sorry.
-/
import Derived.Test.YtlhgmfdmkckmhaaChecked
import GoSem.Claim
import GoSem.ClaimJoined
import GoSem.ClaimMapViews
import Derived.JoinedTies
import Derived.KernelRfl
namespace Go.Proofs.Ytlhgmfdmkckmhaa
/- THE CELL 'sum', in the pinned program and in every row, IS THE sha256 OF THE DUMP (.gsa) THAT YtlhgmfdmkckmhaaProg.lean LOADS. Nothing in Lean hashes anything: it is a label: what it is worth is what the hold of that sum in a sandbox is worth. -/
noncomputable def Try.pinned : Pinned := { name := "ytlhgmfdmkckmhaa", sum := "0e79a40cb728a567d61d6d12e97c81507bffbec4fa9991d0552b604c750b1eb0", checked := Try.checked }
namespace Rows
def none {H : Type} : Left H := { results := [], args := [] }

/-- 'leatlaw15.GateAligns': WHATEVER THE INPUT: true; the input reads as it did. -/
def gateAlignsSpec : ChangeSpec := { name := "gateAligns", fn := fun _ => fun
  | [d1, d2, d3, d4] => { results := [.lit (.bool true)], args := [d1, d2, d3, d4] }
  | _ => none }
def gateAlignsRow : OpenClaim := { program := "ytlhgmfdmkckmhaa", sum := "0e79a40cb728a567d61d6d12e97c81507bffbec4fa9991d0552b604c750b1eb0", func := "leat/leatlaw15.GateAligns", spec := "gateAligns", apart := false }
def GateAlignsSaid : Prop := gateAlignsRow.holds Try.pinned (OpenSpec.ofChange gateAlignsSpec)

/-- ITS FALSE NEIGHBOUR: 'it returns false'. Refute it at one input. -/
def gateAlignsWrong : ChangeSpec := { name := "gateAligns", fn := fun _ => fun
  | [d1, d2, d3, d4] => { results := [.lit (.bool false)], args := [d1, d2, d3, d4] }
  | _ => none }
def GateAlignsWrongFalsely : Prop := gateAlignsRow.holds Try.pinned (OpenSpec.ofChange gateAlignsWrong)

/-- 'leatlaw15.GateOvertakes': WHATEVER THE INPUT: true; the input reads as it did. -/
def gateOvertakesSpec : ChangeSpec := { name := "gateOvertakes", fn := fun _ => fun
  | [d1, d2, d3, d4] => { results := [.lit (.bool true)], args := [d1, d2, d3, d4] }
  | _ => none }
def gateOvertakesRow : OpenClaim := { program := "ytlhgmfdmkckmhaa", sum := "0e79a40cb728a567d61d6d12e97c81507bffbec4fa9991d0552b604c750b1eb0", func := "leat/leatlaw15.GateOvertakes", spec := "gateOvertakes", apart := false }
def GateOvertakesSaid : Prop := gateOvertakesRow.holds Try.pinned (OpenSpec.ofChange gateOvertakesSpec)

/-- ITS FALSE NEIGHBOUR: 'it returns false'. Refute it at one input. -/
def gateOvertakesWrong : ChangeSpec := { name := "gateOvertakes", fn := fun _ => fun
  | [d1, d2, d3, d4] => { results := [.lit (.bool false)], args := [d1, d2, d3, d4] }
  | _ => none }
def GateOvertakesWrongFalsely : Prop := gateOvertakesRow.holds Try.pinned (OpenSpec.ofChange gateOvertakesWrong)

/-- 'leatlaw15.GateMarks': WHATEVER THE INPUT: true; the input reads as it did. -/
def gateMarksSpec : ChangeSpec := { name := "gateMarks", fn := fun _ => fun
  | [d1, d2] => { results := [.lit (.bool true)], args := [d1, d2] }
  | _ => none }
def gateMarksRow : OpenClaim := { program := "ytlhgmfdmkckmhaa", sum := "0e79a40cb728a567d61d6d12e97c81507bffbec4fa9991d0552b604c750b1eb0", func := "leat/leatlaw15.GateMarks", spec := "gateMarks", apart := false }
def GateMarksSaid : Prop := gateMarksRow.holds Try.pinned (OpenSpec.ofChange gateMarksSpec)

/-- ITS FALSE NEIGHBOUR: 'it returns false'. Refute it at one input. -/
def gateMarksWrong : ChangeSpec := { name := "gateMarks", fn := fun _ => fun
  | [d1, d2] => { results := [.lit (.bool false)], args := [d1, d2] }
  | _ => none }
def GateMarksWrongFalsely : Prop := gateMarksRow.holds Try.pinned (OpenSpec.ofChange gateMarksWrong)

/-- 'leatlaw15.GateNewer': WHATEVER THE INPUT: true; the input reads as it did. -/
def gateNewerSpec : ChangeSpec := { name := "gateNewer", fn := fun _ => fun
  | [d1, d2, d3, d4] => { results := [.lit (.bool true)], args := [d1, d2, d3, d4] }
  | _ => none }
def gateNewerRow : OpenClaim := { program := "ytlhgmfdmkckmhaa", sum := "0e79a40cb728a567d61d6d12e97c81507bffbec4fa9991d0552b604c750b1eb0", func := "leat/leatlaw15.GateNewer", spec := "gateNewer", apart := false }
def GateNewerSaid : Prop := gateNewerRow.holds Try.pinned (OpenSpec.ofChange gateNewerSpec)

/-- ITS FALSE NEIGHBOUR: 'it returns false'. Refute it at one input. -/
def gateNewerWrong : ChangeSpec := { name := "gateNewer", fn := fun _ => fun
  | [d1, d2, d3, d4] => { results := [.lit (.bool false)], args := [d1, d2, d3, d4] }
  | _ => none }
def GateNewerWrongFalsely : Prop := gateNewerRow.holds Try.pinned (OpenSpec.ofChange gateNewerWrong)

/-- 'leatlaw15.GatePlays': WHATEVER THE INPUT: true; the input reads as it did. -/
def gatePlaysSpec : ChangeSpec := { name := "gatePlays", fn := fun _ => fun
  | [d1, d2] => { results := [.lit (.bool true)], args := [d1, d2] }
  | _ => none }
def gatePlaysRow : OpenClaim := { program := "ytlhgmfdmkckmhaa", sum := "0e79a40cb728a567d61d6d12e97c81507bffbec4fa9991d0552b604c750b1eb0", func := "leat/leatlaw15.GatePlays", spec := "gatePlays", apart := false }
def GatePlaysSaid : Prop := gatePlaysRow.holds Try.pinned (OpenSpec.ofChange gatePlaysSpec)

/-- ITS FALSE NEIGHBOUR: 'it returns false'. Refute it at one input. -/
def gatePlaysWrong : ChangeSpec := { name := "gatePlays", fn := fun _ => fun
  | [d1, d2] => { results := [.lit (.bool false)], args := [d1, d2] }
  | _ => none }
def GatePlaysWrongFalsely : Prop := gatePlaysRow.holds Try.pinned (OpenSpec.ofChange gatePlaysWrong)

/- THE SECOND FORM. 'bulk': how many values and letters a reading holds, each counted each time it is reached (what is shared counts as often as it is met; a slice's spare places count too). A statement '..UptoSaid' is the law's where the arguments, and the package variables that the reading takes, are together of bulk at most 1048576: NARROWER than '..Said'. Prove '..Said' where nothing that the law and all that it calls make is longer than what came in: it says more and counts as full. Else prove '..UptoSaid'. A law counts once. -/
mutual
def uptoBulk {H : Type} : DataW H → Nat
  | .lit (.string bytes) => bytes.length + 1
  | .lit _ => 1
  | .nil => 1
  | .ptr d => uptoBulk d + 1
  | .slice elems spare => uptoBulkAll elems + uptoBulkAll spare + 1
  | .agg parts => uptoBulkAll parts + 1
  | .iface _ d => uptoBulk d + 1
  | .map entries => uptoBulkEntries entries + 1
  | .held _ => 1
def uptoBulkAll {H : Type} : List (DataW H) → Nat
  | [] => 0
  | d :: r => uptoBulk d + uptoBulkAll r
def uptoBulkEntries {H : Type} : List (Lit × DataW H) → Nat
  | [] => 0
  | x :: r => uptoBulkEntry x + uptoBulkEntries r
def uptoBulkEntry {H : Type} : Lit × DataW H → Nat
  | (.string bytes, d) => bytes.length + uptoBulk d + 1
  | (_, d) => uptoBulk d + 1
 end
def uptoSmall : (H : Type) → List (DataW H) → Bool := fun _ ds => decide (uptoBulkAll ds ≤ 1048576)
def OpenSpec.upto (s : _root_.Go.ChangeSpec) : _root_.Go.OpenSpec := { _root_.Go.OpenSpec.ofChange s with cond := some uptoSmall }

/-- 'leatlaw15.GateAligns', WHERE WHAT IT READS IS OF BULK AT MOST 1048576: true; the input reads as it did. -/
def gateAlignsUptoRow : OpenClaim := { program := "ytlhgmfdmkckmhaa", sum := "0e79a40cb728a567d61d6d12e97c81507bffbec4fa9991d0552b604c750b1eb0", func := "leat/leatlaw15.GateAligns", spec := "gateAligns", apart := false, narrowed := true }
def GateAlignsUptoSaid : Prop := gateAlignsUptoRow.holds Try.pinned (OpenSpec.upto gateAlignsSpec)

/-- 'leatlaw15.GateOvertakes', WHERE WHAT IT READS IS OF BULK AT MOST 1048576: true; the input reads as it did. -/
def gateOvertakesUptoRow : OpenClaim := { program := "ytlhgmfdmkckmhaa", sum := "0e79a40cb728a567d61d6d12e97c81507bffbec4fa9991d0552b604c750b1eb0", func := "leat/leatlaw15.GateOvertakes", spec := "gateOvertakes", apart := false, narrowed := true }
def GateOvertakesUptoSaid : Prop := gateOvertakesUptoRow.holds Try.pinned (OpenSpec.upto gateOvertakesSpec)

/-- 'leatlaw15.GateMarks', WHERE WHAT IT READS IS OF BULK AT MOST 1048576: true; the input reads as it did. -/
def gateMarksUptoRow : OpenClaim := { program := "ytlhgmfdmkckmhaa", sum := "0e79a40cb728a567d61d6d12e97c81507bffbec4fa9991d0552b604c750b1eb0", func := "leat/leatlaw15.GateMarks", spec := "gateMarks", apart := false, narrowed := true }
def GateMarksUptoSaid : Prop := gateMarksUptoRow.holds Try.pinned (OpenSpec.upto gateMarksSpec)

/-- 'leatlaw15.GateNewer', WHERE WHAT IT READS IS OF BULK AT MOST 1048576: true; the input reads as it did. -/
def gateNewerUptoRow : OpenClaim := { program := "ytlhgmfdmkckmhaa", sum := "0e79a40cb728a567d61d6d12e97c81507bffbec4fa9991d0552b604c750b1eb0", func := "leat/leatlaw15.GateNewer", spec := "gateNewer", apart := false, narrowed := true }
def GateNewerUptoSaid : Prop := gateNewerUptoRow.holds Try.pinned (OpenSpec.upto gateNewerSpec)

/-- 'leatlaw15.GatePlays', WHERE WHAT IT READS IS OF BULK AT MOST 1048576: true; the input reads as it did. -/
def gatePlaysUptoRow : OpenClaim := { program := "ytlhgmfdmkckmhaa", sum := "0e79a40cb728a567d61d6d12e97c81507bffbec4fa9991d0552b604c750b1eb0", func := "leat/leatlaw15.GatePlays", spec := "gatePlays", apart := false, narrowed := true }
def GatePlaysUptoSaid : Prop := gatePlaysUptoRow.holds Try.pinned (OpenSpec.upto gatePlaysSpec)

end Rows
end Go.Proofs.Ytlhgmfdmkckmhaa

/-
  No cell of these rows narrows 'for every input' (looked for: loops, veiled, ifaces, maps, wideKeys, modest, calm, conditions, laid).
  DERIVED. THE GIVEN ROWS OF THIS SEAT. 4 by the template 'for every input the law returns true; each argument reads behind the call as it read before'; 0 by the template 'total and deterministic' (their statements: YtlpcofjmleghdaaTotals.lean).
  GIVEN WITH THE SEED: the statements are not yours to turn. If you find one false, say at which input.
  Laid BY PROGRAM, IN A SANDBOX (cutbox-rows.mjs): the forced cells as the released guide's own fill.sh prints them over the translation 5bc136dc0ad57ae9… (all of the seat's roots in one cut). By AI agents, Wed Nov 11 2026. No macro, syntax, notation, axiom, sorry.
-/
import Derived.Test.YtlpcofjmleghdaaChecked
import GoSem.Claim
import GoSem.ClaimJoined
import GoSem.ClaimMapViews
import Derived.JoinedTies
import Derived.KernelRfl
namespace Go.Proofs.Ytlpcofjmleghdaa
/- THE CELL 'sum', in the pinned program and in every row, IS THE sha256 OF THE DUMP (.gsa) THAT YtlpcofjmleghdaaProg.lean LOADS. Nothing in Lean hashes anything: it is a label: what it is worth is what the hold of that sum in a sandbox is worth. -/
noncomputable def Try.pinned : Pinned := { name := "ytlpcofjmleghdaa", sum := "5bc136dc0ad57ae940cb9344a7804f313cef5225ffe8a230845182d5790a4ead", checked := Try.checked }
namespace Rows
def none {H : Type} : Left H := { results := [], args := [] }

/-- 'leatlaw4.TryPlays': WHATEVER THE INPUT: true; the input reads as it did. -/
def tryPlaysSpec : ChangeSpec := { name := "tryPlays", fn := fun _ => fun
  | [d1, d2, d3] => { results := [.lit (.bool true)], args := [d1, d2, d3] }
  | _ => none }
def tryPlaysRow : OpenClaim := { program := "ytlpcofjmleghdaa", sum := "5bc136dc0ad57ae940cb9344a7804f313cef5225ffe8a230845182d5790a4ead", func := "leat/leatlaw4.TryPlays", spec := "tryPlays", inPlace := ["slices.overlaps[int]"], apart := false }
def TryPlaysSaid : Prop := tryPlaysRow.holds Try.pinned (OpenSpec.ofChange tryPlaysSpec)

/-- ITS FALSE NEIGHBOUR: 'it returns false'. Refute it at one input. -/
def tryPlaysWrong : ChangeSpec := { name := "tryPlays", fn := fun _ => fun
  | [d1, d2, d3] => { results := [.lit (.bool false)], args := [d1, d2, d3] }
  | _ => none }
def TryPlaysWrongFalsely : Prop := tryPlaysRow.holds Try.pinned (OpenSpec.ofChange tryPlaysWrong)

/-- 'leatlaw4.RingSides': WHATEVER THE INPUT: true; the input reads as it did. -/
def ringSidesSpec : ChangeSpec := { name := "ringSides", fn := fun _ => fun
  | [d1, d2, d3] => { results := [.lit (.bool true)], args := [d1, d2, d3] }
  | _ => none }
def ringSidesRow : OpenClaim := { program := "ytlpcofjmleghdaa", sum := "5bc136dc0ad57ae940cb9344a7804f313cef5225ffe8a230845182d5790a4ead", func := "leat/leatlaw4.RingSides", spec := "ringSides", inPlace := ["slices.overlaps[int]", "slices.overlaps[string]"], apart := false }
def RingSidesSaid : Prop := ringSidesRow.holds Try.pinned (OpenSpec.ofChange ringSidesSpec)

/-- ITS FALSE NEIGHBOUR: 'it returns false'. Refute it at one input. -/
def ringSidesWrong : ChangeSpec := { name := "ringSides", fn := fun _ => fun
  | [d1, d2, d3] => { results := [.lit (.bool false)], args := [d1, d2, d3] }
  | _ => none }
def RingSidesWrongFalsely : Prop := ringSidesRow.holds Try.pinned (OpenSpec.ofChange ringSidesWrong)

/-- 'leatlaw4.RingPlays': WHATEVER THE INPUT: true; the input reads as it did. -/
def ringPlaysSpec : ChangeSpec := { name := "ringPlays", fn := fun _ => fun
  | [d1, d2] => { results := [.lit (.bool true)], args := [d1, d2] }
  | _ => none }
def ringPlaysRow : OpenClaim := { program := "ytlpcofjmleghdaa", sum := "5bc136dc0ad57ae940cb9344a7804f313cef5225ffe8a230845182d5790a4ead", func := "leat/leatlaw4.RingPlays", spec := "ringPlays", inPlace := ["slices.overlaps[int]"], apart := false }
def RingPlaysSaid : Prop := ringPlaysRow.holds Try.pinned (OpenSpec.ofChange ringPlaysSpec)

/-- ITS FALSE NEIGHBOUR: 'it returns false'. Refute it at one input. -/
def ringPlaysWrong : ChangeSpec := { name := "ringPlays", fn := fun _ => fun
  | [d1, d2] => { results := [.lit (.bool false)], args := [d1, d2] }
  | _ => none }
def RingPlaysWrongFalsely : Prop := ringPlaysRow.holds Try.pinned (OpenSpec.ofChange ringPlaysWrong)

/-- 'leatlaw4.RingMaps': WHATEVER THE INPUT: true; the input reads as it did. -/
def ringMapsSpec : ChangeSpec := { name := "ringMaps", fn := fun _ => fun
  | [d1, d2] => { results := [.lit (.bool true)], args := [d1, d2] }
  | _ => none }
def ringMapsRow : OpenClaim := { program := "ytlpcofjmleghdaa", sum := "5bc136dc0ad57ae940cb9344a7804f313cef5225ffe8a230845182d5790a4ead", func := "leat/leatlaw4.RingMaps", spec := "ringMaps", inPlace := ["slices.overlaps[int]"], unfollowed := true, recurses := true, apart := false }
def RingMapsSaid : Prop := ringMapsRow.holds Try.pinned (OpenSpec.ofChange ringMapsSpec)

/-- ITS FALSE NEIGHBOUR: 'it returns false'. Refute it at one input. -/
def ringMapsWrong : ChangeSpec := { name := "ringMaps", fn := fun _ => fun
  | [d1, d2] => { results := [.lit (.bool false)], args := [d1, d2] }
  | _ => none }
def RingMapsWrongFalsely : Prop := ringMapsRow.holds Try.pinned (OpenSpec.ofChange ringMapsWrong)

/- THE SECOND FORM. 'bulk': how many values and letters a reading holds, each counted each time it is reached (what is shared counts as often as it is met; a slice's spare places count too). A statement '..UptoSaid' is the law's where the arguments, and the package variables that the reading takes, are together of bulk at most 1048576: NARROWER than '..Said'. Prove '..Said' where nothing that the law and all that it calls make is longer than what came in: it says more and counts as full. Else prove '..UptoSaid'. A law counts once. -/
mutual
def uptoBulk {H : Type} : DataW H → Nat
  | .lit (.string bytes) => bytes.length + 1
  | .lit _ => 1
  | .nil => 1
  | .ptr d => uptoBulk d + 1
  | .slice elems spare => uptoBulkAll elems + uptoBulkAll spare + 1
  | .agg parts => uptoBulkAll parts + 1
  | .iface _ d => uptoBulk d + 1
  | .map entries => uptoBulkEntries entries + 1
  | .held _ => 1
def uptoBulkAll {H : Type} : List (DataW H) → Nat
  | [] => 0
  | d :: r => uptoBulk d + uptoBulkAll r
def uptoBulkEntries {H : Type} : List (Lit × DataW H) → Nat
  | [] => 0
  | x :: r => uptoBulkEntry x + uptoBulkEntries r
def uptoBulkEntry {H : Type} : Lit × DataW H → Nat
  | (.string bytes, d) => bytes.length + uptoBulk d + 1
  | (_, d) => uptoBulk d + 1
 end
def uptoSmall : (H : Type) → List (DataW H) → Bool := fun _ ds => decide (uptoBulkAll ds ≤ 1048576)
def OpenSpec.upto (s : _root_.Go.ChangeSpec) : _root_.Go.OpenSpec := { _root_.Go.OpenSpec.ofChange s with cond := some uptoSmall }

/-- 'leatlaw4.TryPlays', WHERE WHAT IT READS IS OF BULK AT MOST 1048576: true; the input reads as it did. -/
def tryPlaysUptoRow : OpenClaim := { program := "ytlpcofjmleghdaa", sum := "5bc136dc0ad57ae940cb9344a7804f313cef5225ffe8a230845182d5790a4ead", func := "leat/leatlaw4.TryPlays", spec := "tryPlays", inPlace := ["slices.overlaps[int]"], apart := false, narrowed := true }
def TryPlaysUptoSaid : Prop := tryPlaysUptoRow.holds Try.pinned (OpenSpec.upto tryPlaysSpec)

/-- 'leatlaw4.RingSides', WHERE WHAT IT READS IS OF BULK AT MOST 1048576: true; the input reads as it did. -/
def ringSidesUptoRow : OpenClaim := { program := "ytlpcofjmleghdaa", sum := "5bc136dc0ad57ae940cb9344a7804f313cef5225ffe8a230845182d5790a4ead", func := "leat/leatlaw4.RingSides", spec := "ringSides", inPlace := ["slices.overlaps[int]", "slices.overlaps[string]"], apart := false, narrowed := true }
def RingSidesUptoSaid : Prop := ringSidesUptoRow.holds Try.pinned (OpenSpec.upto ringSidesSpec)

/-- 'leatlaw4.RingPlays', WHERE WHAT IT READS IS OF BULK AT MOST 1048576: true; the input reads as it did. -/
def ringPlaysUptoRow : OpenClaim := { program := "ytlpcofjmleghdaa", sum := "5bc136dc0ad57ae940cb9344a7804f313cef5225ffe8a230845182d5790a4ead", func := "leat/leatlaw4.RingPlays", spec := "ringPlays", inPlace := ["slices.overlaps[int]"], apart := false, narrowed := true }
def RingPlaysUptoSaid : Prop := ringPlaysUptoRow.holds Try.pinned (OpenSpec.upto ringPlaysSpec)

/-- 'leatlaw4.RingMaps', WHERE WHAT IT READS IS OF BULK AT MOST 1048576: true; the input reads as it did. -/
def ringMapsUptoRow : OpenClaim := { program := "ytlpcofjmleghdaa", sum := "5bc136dc0ad57ae940cb9344a7804f313cef5225ffe8a230845182d5790a4ead", func := "leat/leatlaw4.RingMaps", spec := "ringMaps", inPlace := ["slices.overlaps[int]"], unfollowed := true, recurses := true, apart := false, narrowed := true }
def RingMapsUptoSaid : Prop := ringMapsUptoRow.holds Try.pinned (OpenSpec.upto ringMapsSpec)

end Rows
end Go.Proofs.Ytlpcofjmleghdaa

/-
  No cell of these rows narrows 'for every input' (looked for: loops, veiled, ifaces, maps, wideKeys, modest, calm, conditions, laid).
  DERIVED. THE GIVEN ROWS OF THIS SEAT. 7 by the template 'for every input the law returns true; each argument reads behind the call as it read before'; 0 by the template 'total and deterministic' (their statements: YtjdkpogkhecijaaTotals.lean).
  GIVEN WITH THE SEED: the statements are not yours to turn. If you find one false, say at which input.
  Laid BY PROGRAM, IN A SANDBOX (cutbox-rows.mjs): the forced cells as the released guide's own fill.sh prints them over the translation b7d442296c7518b1… (all of the seat's roots in one cut). By AI agents, Wed Nov 11 2026. No macro, syntax, notation, axiom, sorry.
-/
import Derived.Test.YtjdkpogkhecijaaChecked
import GoSem.Claim
import GoSem.ClaimJoined
import GoSem.ClaimMapViews
import Derived.JoinedTies
import Derived.KernelRfl
namespace Go.Proofs.Ytjdkpogkhecijaa
/- THE CELL 'sum', in the pinned program and in every row, IS THE sha256 OF THE DUMP (.gsa) THAT YtjdkpogkhecijaaProg.lean LOADS. Nothing in Lean hashes anything: it is a label: what it is worth is what the hold of that sum in a sandbox is worth. -/
noncomputable def Try.pinned : Pinned := { name := "ytjdkpogkhecijaa", sum := "b7d442296c7518b1d5792e678d76bd127e75b58194e51c9fedc8facbf5c3e7f9", checked := Try.checked }
namespace Rows
def none {H : Type} : Left H := { results := [], args := [] }

/-- 'leatlaw1.CodecSeals': WHATEVER THE INPUT: true; the input reads as it did. -/
def codecSealsSpec : ChangeSpec := { name := "codecSeals", fn := fun _ => fun
  | [d1, d2, d3, d4] => { results := [.lit (.bool true)], args := [d1, d2, d3, d4] }
  | _ => none }
def codecSealsRow : OpenClaim := { program := "ytjdkpogkhecijaa", sum := "b7d442296c7518b1d5792e678d76bd127e75b58194e51c9fedc8facbf5c3e7f9", func := "leat/leatlaw1.CodecSeals", spec := "codecSeals", apart := false }
def CodecSealsSaid : Prop := codecSealsRow.holds Try.pinned (OpenSpec.ofChange codecSealsSpec)

/-- ITS FALSE NEIGHBOUR: 'it returns false'. Refute it at one input. -/
def codecSealsWrong : ChangeSpec := { name := "codecSeals", fn := fun _ => fun
  | [d1, d2, d3, d4] => { results := [.lit (.bool false)], args := [d1, d2, d3, d4] }
  | _ => none }
def CodecSealsWrongFalsely : Prop := codecSealsRow.holds Try.pinned (OpenSpec.ofChange codecSealsWrong)

/-- 'leatlaw1.CodecFrame': WHATEVER THE INPUT: true; the input reads as it did. -/
def codecFrameSpec : ChangeSpec := { name := "codecFrame", fn := fun _ => fun
  | [d1, d2] => { results := [.lit (.bool true)], args := [d1, d2] }
  | _ => none }
def codecFrameRow : OpenClaim := { program := "ytjdkpogkhecijaa", sum := "b7d442296c7518b1d5792e678d76bd127e75b58194e51c9fedc8facbf5c3e7f9", func := "leat/leatlaw1.CodecFrame", spec := "codecFrame", apart := false }
def CodecFrameSaid : Prop := codecFrameRow.holds Try.pinned (OpenSpec.ofChange codecFrameSpec)

/-- ITS FALSE NEIGHBOUR: 'it returns false'. Refute it at one input. -/
def codecFrameWrong : ChangeSpec := { name := "codecFrame", fn := fun _ => fun
  | [d1, d2] => { results := [.lit (.bool false)], args := [d1, d2] }
  | _ => none }
def CodecFrameWrongFalsely : Prop := codecFrameRow.holds Try.pinned (OpenSpec.ofChange codecFrameWrong)

/-- 'leatlaw1.CodecApart': WHATEVER THE INPUT: true; the input reads as it did. -/
def codecApartSpec : ChangeSpec := { name := "codecApart", fn := fun _ => fun
  | [d1, d2, d3, d4, d5, d6] => { results := [.lit (.bool true)], args := [d1, d2, d3, d4, d5, d6] }
  | _ => none }
def codecApartRow : OpenClaim := { program := "ytjdkpogkhecijaa", sum := "b7d442296c7518b1d5792e678d76bd127e75b58194e51c9fedc8facbf5c3e7f9", func := "leat/leatlaw1.CodecApart", spec := "codecApart", unfollowed := true, recurses := true, apart := false }
def CodecApartSaid : Prop := codecApartRow.holds Try.pinned (OpenSpec.ofChange codecApartSpec)

/-- ITS FALSE NEIGHBOUR: 'it returns false'. Refute it at one input. -/
def codecApartWrong : ChangeSpec := { name := "codecApart", fn := fun _ => fun
  | [d1, d2, d3, d4, d5, d6] => { results := [.lit (.bool false)], args := [d1, d2, d3, d4, d5, d6] }
  | _ => none }
def CodecApartWrongFalsely : Prop := codecApartRow.holds Try.pinned (OpenSpec.ofChange codecApartWrong)

/-- 'leatlaw1.CodecManifest': WHATEVER THE INPUT: true; the input reads as it did. -/
def codecManifestSpec : ChangeSpec := { name := "codecManifest", fn := fun _ => fun
  | [d] => { results := [.lit (.bool true)], args := [d] }
  | _ => none }
def codecManifestRow : OpenClaim := { program := "ytjdkpogkhecijaa", sum := "b7d442296c7518b1d5792e678d76bd127e75b58194e51c9fedc8facbf5c3e7f9", func := "leat/leatlaw1.CodecManifest", spec := "codecManifest", unfollowed := true, recurses := true, apart := false }
def CodecManifestSaid : Prop := codecManifestRow.holds Try.pinned (OpenSpec.ofChange codecManifestSpec)

/-- ITS FALSE NEIGHBOUR: 'it returns false'. Refute it at one input. -/
def codecManifestWrong : ChangeSpec := { name := "codecManifest", fn := fun _ => fun
  | [d] => { results := [.lit (.bool false)], args := [d] }
  | _ => none }
def CodecManifestWrongFalsely : Prop := codecManifestRow.holds Try.pinned (OpenSpec.ofChange codecManifestWrong)

/-- 'leatlaw1.CodecSnap': WHATEVER THE INPUT: true; the input reads as it did. -/
def codecSnapSpec : ChangeSpec := { name := "codecSnap", fn := fun _ => fun
  | [d] => { results := [.lit (.bool true)], args := [d] }
  | _ => none }
def codecSnapRow : OpenClaim := { program := "ytjdkpogkhecijaa", sum := "b7d442296c7518b1d5792e678d76bd127e75b58194e51c9fedc8facbf5c3e7f9", func := "leat/leatlaw1.CodecSnap", spec := "codecSnap", unfollowed := true, recurses := true, apart := false }
def CodecSnapSaid : Prop := codecSnapRow.holds Try.pinned (OpenSpec.ofChange codecSnapSpec)

/-- ITS FALSE NEIGHBOUR: 'it returns false'. Refute it at one input. -/
def codecSnapWrong : ChangeSpec := { name := "codecSnap", fn := fun _ => fun
  | [d] => { results := [.lit (.bool false)], args := [d] }
  | _ => none }
def CodecSnapWrongFalsely : Prop := codecSnapRow.holds Try.pinned (OpenSpec.ofChange codecSnapWrong)

/-- 'leatlaw1.CodecCuts': WHATEVER THE INPUT: true; the input reads as it did. -/
def codecCutsSpec : ChangeSpec := { name := "codecCuts", fn := fun _ => fun
  | [d1, d2, d3] => { results := [.lit (.bool true)], args := [d1, d2, d3] }
  | _ => none }
def codecCutsRow : OpenClaim := { program := "ytjdkpogkhecijaa", sum := "b7d442296c7518b1d5792e678d76bd127e75b58194e51c9fedc8facbf5c3e7f9", func := "leat/leatlaw1.CodecCuts", spec := "codecCuts", unfollowed := true, recurses := true, apart := false }
def CodecCutsSaid : Prop := codecCutsRow.holds Try.pinned (OpenSpec.ofChange codecCutsSpec)

/-- ITS FALSE NEIGHBOUR: 'it returns false'. Refute it at one input. -/
def codecCutsWrong : ChangeSpec := { name := "codecCuts", fn := fun _ => fun
  | [d1, d2, d3] => { results := [.lit (.bool false)], args := [d1, d2, d3] }
  | _ => none }
def CodecCutsWrongFalsely : Prop := codecCutsRow.holds Try.pinned (OpenSpec.ofChange codecCutsWrong)

/-- 'leatlaw1.CodecReads': WHATEVER THE INPUT: true; the input reads as it did. -/
def codecReadsSpec : ChangeSpec := { name := "codecReads", fn := fun _ => fun
  | [d] => { results := [.lit (.bool true)], args := [d] }
  | _ => none }
def codecReadsRow : OpenClaim := { program := "ytjdkpogkhecijaa", sum := "b7d442296c7518b1d5792e678d76bd127e75b58194e51c9fedc8facbf5c3e7f9", func := "leat/leatlaw1.CodecReads", spec := "codecReads", unfollowed := true, recurses := true, apart := false }
def CodecReadsSaid : Prop := codecReadsRow.holds Try.pinned (OpenSpec.ofChange codecReadsSpec)

/-- ITS FALSE NEIGHBOUR: 'it returns false'. Refute it at one input. -/
def codecReadsWrong : ChangeSpec := { name := "codecReads", fn := fun _ => fun
  | [d] => { results := [.lit (.bool false)], args := [d] }
  | _ => none }
def CodecReadsWrongFalsely : Prop := codecReadsRow.holds Try.pinned (OpenSpec.ofChange codecReadsWrong)

/- THE SECOND FORM. 'bulk': how many values and letters a reading holds, each counted each time it is reached (what is shared counts as often as it is met; a slice's spare places count too). A statement '..UptoSaid' is the law's where the arguments, and the package variables that the reading takes, are together of bulk at most 1048576: NARROWER than '..Said'. Prove '..Said' where nothing that the law and all that it calls make is longer than what came in: it says more and counts as full. Else prove '..UptoSaid'. A law counts once. -/
mutual
def uptoBulk {H : Type} : DataW H → Nat
  | .lit (.string bytes) => bytes.length + 1
  | .lit _ => 1
  | .nil => 1
  | .ptr d => uptoBulk d + 1
  | .slice elems spare => uptoBulkAll elems + uptoBulkAll spare + 1
  | .agg parts => uptoBulkAll parts + 1
  | .iface _ d => uptoBulk d + 1
  | .map entries => uptoBulkEntries entries + 1
  | .held _ => 1
def uptoBulkAll {H : Type} : List (DataW H) → Nat
  | [] => 0
  | d :: r => uptoBulk d + uptoBulkAll r
def uptoBulkEntries {H : Type} : List (Lit × DataW H) → Nat
  | [] => 0
  | x :: r => uptoBulkEntry x + uptoBulkEntries r
def uptoBulkEntry {H : Type} : Lit × DataW H → Nat
  | (.string bytes, d) => bytes.length + uptoBulk d + 1
  | (_, d) => uptoBulk d + 1
 end
def uptoSmall : (H : Type) → List (DataW H) → Bool := fun _ ds => decide (uptoBulkAll ds ≤ 1048576)
def OpenSpec.upto (s : _root_.Go.ChangeSpec) : _root_.Go.OpenSpec := { _root_.Go.OpenSpec.ofChange s with cond := some uptoSmall }

/-- 'leatlaw1.CodecSeals', WHERE WHAT IT READS IS OF BULK AT MOST 1048576: true; the input reads as it did. -/
def codecSealsUptoRow : OpenClaim := { program := "ytjdkpogkhecijaa", sum := "b7d442296c7518b1d5792e678d76bd127e75b58194e51c9fedc8facbf5c3e7f9", func := "leat/leatlaw1.CodecSeals", spec := "codecSeals", apart := false, narrowed := true }
def CodecSealsUptoSaid : Prop := codecSealsUptoRow.holds Try.pinned (OpenSpec.upto codecSealsSpec)

/-- 'leatlaw1.CodecFrame', WHERE WHAT IT READS IS OF BULK AT MOST 1048576: true; the input reads as it did. -/
def codecFrameUptoRow : OpenClaim := { program := "ytjdkpogkhecijaa", sum := "b7d442296c7518b1d5792e678d76bd127e75b58194e51c9fedc8facbf5c3e7f9", func := "leat/leatlaw1.CodecFrame", spec := "codecFrame", apart := false, narrowed := true }
def CodecFrameUptoSaid : Prop := codecFrameUptoRow.holds Try.pinned (OpenSpec.upto codecFrameSpec)

/-- 'leatlaw1.CodecApart', WHERE WHAT IT READS IS OF BULK AT MOST 1048576: true; the input reads as it did. -/
def codecApartUptoRow : OpenClaim := { program := "ytjdkpogkhecijaa", sum := "b7d442296c7518b1d5792e678d76bd127e75b58194e51c9fedc8facbf5c3e7f9", func := "leat/leatlaw1.CodecApart", spec := "codecApart", unfollowed := true, recurses := true, apart := false, narrowed := true }
def CodecApartUptoSaid : Prop := codecApartUptoRow.holds Try.pinned (OpenSpec.upto codecApartSpec)

/-- 'leatlaw1.CodecManifest', WHERE WHAT IT READS IS OF BULK AT MOST 1048576: true; the input reads as it did. -/
def codecManifestUptoRow : OpenClaim := { program := "ytjdkpogkhecijaa", sum := "b7d442296c7518b1d5792e678d76bd127e75b58194e51c9fedc8facbf5c3e7f9", func := "leat/leatlaw1.CodecManifest", spec := "codecManifest", unfollowed := true, recurses := true, apart := false, narrowed := true }
def CodecManifestUptoSaid : Prop := codecManifestUptoRow.holds Try.pinned (OpenSpec.upto codecManifestSpec)

/-- 'leatlaw1.CodecSnap', WHERE WHAT IT READS IS OF BULK AT MOST 1048576: true; the input reads as it did. -/
def codecSnapUptoRow : OpenClaim := { program := "ytjdkpogkhecijaa", sum := "b7d442296c7518b1d5792e678d76bd127e75b58194e51c9fedc8facbf5c3e7f9", func := "leat/leatlaw1.CodecSnap", spec := "codecSnap", unfollowed := true, recurses := true, apart := false, narrowed := true }
def CodecSnapUptoSaid : Prop := codecSnapUptoRow.holds Try.pinned (OpenSpec.upto codecSnapSpec)

/-- 'leatlaw1.CodecCuts', WHERE WHAT IT READS IS OF BULK AT MOST 1048576: true; the input reads as it did. -/
def codecCutsUptoRow : OpenClaim := { program := "ytjdkpogkhecijaa", sum := "b7d442296c7518b1d5792e678d76bd127e75b58194e51c9fedc8facbf5c3e7f9", func := "leat/leatlaw1.CodecCuts", spec := "codecCuts", unfollowed := true, recurses := true, apart := false, narrowed := true }
def CodecCutsUptoSaid : Prop := codecCutsUptoRow.holds Try.pinned (OpenSpec.upto codecCutsSpec)

/-- 'leatlaw1.CodecReads', WHERE WHAT IT READS IS OF BULK AT MOST 1048576: true; the input reads as it did. -/
def codecReadsUptoRow : OpenClaim := { program := "ytjdkpogkhecijaa", sum := "b7d442296c7518b1d5792e678d76bd127e75b58194e51c9fedc8facbf5c3e7f9", func := "leat/leatlaw1.CodecReads", spec := "codecReads", unfollowed := true, recurses := true, apart := false, narrowed := true }
def CodecReadsUptoSaid : Prop := codecReadsUptoRow.holds Try.pinned (OpenSpec.upto codecReadsSpec)

end Rows
end Go.Proofs.Ytjdkpogkhecijaa

/-
  No cell of these rows narrows 'for every input' (looked for: loops, veiled, ifaces, maps, wideKeys, modest, calm, conditions, laid).
  DERIVED. THE GIVEN ROWS OF THIS SEAT. 5 by the template 'for every input the law returns true; each argument reads behind the call as it read before'; 0 by the template 'total and deterministic' (their statements: YthjinahfhpgpmaaTotals.lean).
  GIVEN WITH THE SEED: the statements are not yours to turn. If you find one false, say at which input.
  Laid BY PROGRAM, IN A SANDBOX (cutbox-rows.mjs): the forced cells as the released guide's own fill.sh prints them over the translation dfa57228c0311c5d… (all of the seat's roots in one cut). By AI agents, Wed Nov 11 2026. No macro, syntax, notation, axiom, sorry.
-/
import Derived.Test.YthjinahfhpgpmaaChecked
import GoSem.Claim
import GoSem.ClaimJoined
import GoSem.ClaimMapViews
import Derived.JoinedTies
import Derived.KernelRfl
namespace Go.Proofs.Ythjinahfhpgpmaa
/- THE CELL 'sum', in the pinned program and in every row, IS THE sha256 OF THE DUMP (.gsa) THAT YthjinahfhpgpmaaProg.lean LOADS. Nothing in Lean hashes anything: it is a label: what it is worth is what the hold of that sum in a sandbox is worth. -/
noncomputable def Try.pinned : Pinned := { name := "ythjinahfhpgpmaa", sum := "dfa57228c0311c5df690126cbf497fd06d00b6208a3c4513dfbaeeaad9c26cad", checked := Try.checked }
namespace Rows
def none {H : Type} : Left H := { results := [], args := [] }

/-- 'leatlaw18.CoordComes': WHATEVER THE INPUT: true; the input reads as it did. -/
def coordComesSpec : ChangeSpec := { name := "coordComes", fn := fun _ => fun
  | [d1, d2, d3, d4] => { results := [.lit (.bool true)], args := [d1, d2, d3, d4] }
  | _ => none }
def coordComesRow : OpenClaim := { program := "ythjinahfhpgpmaa", sum := "dfa57228c0311c5df690126cbf497fd06d00b6208a3c4513dfbaeeaad9c26cad", func := "leat/leatlaw18.CoordComes", spec := "coordComes", unfollowed := true, recurses := true, apart := false }
def CoordComesSaid : Prop := coordComesRow.holds Try.pinned (OpenSpec.ofChange coordComesSpec)

/-- ITS FALSE NEIGHBOUR: 'it returns false'. Refute it at one input. -/
def coordComesWrong : ChangeSpec := { name := "coordComes", fn := fun _ => fun
  | [d1, d2, d3, d4] => { results := [.lit (.bool false)], args := [d1, d2, d3, d4] }
  | _ => none }
def CoordComesWrongFalsely : Prop := coordComesRow.holds Try.pinned (OpenSpec.ofChange coordComesWrong)

/-- 'leatlaw18.CoordOld': WHATEVER THE INPUT: true; the input reads as it did. -/
def coordOldSpec : ChangeSpec := { name := "coordOld", fn := fun _ => fun
  | [d1, d2, d3] => { results := [.lit (.bool true)], args := [d1, d2, d3] }
  | _ => none }
def coordOldRow : OpenClaim := { program := "ythjinahfhpgpmaa", sum := "dfa57228c0311c5df690126cbf497fd06d00b6208a3c4513dfbaeeaad9c26cad", func := "leat/leatlaw18.CoordOld", spec := "coordOld", unfollowed := true, recurses := true, apart := false }
def CoordOldSaid : Prop := coordOldRow.holds Try.pinned (OpenSpec.ofChange coordOldSpec)

/-- ITS FALSE NEIGHBOUR: 'it returns false'. Refute it at one input. -/
def coordOldWrong : ChangeSpec := { name := "coordOld", fn := fun _ => fun
  | [d1, d2, d3] => { results := [.lit (.bool false)], args := [d1, d2, d3] }
  | _ => none }
def CoordOldWrongFalsely : Prop := coordOldRow.holds Try.pinned (OpenSpec.ofChange coordOldWrong)

/-- 'leatlaw18.CoordBegins': WHATEVER THE INPUT: true; the input reads as it did. -/
def coordBeginsSpec : ChangeSpec := { name := "coordBegins", fn := fun _ => fun
  | [d1, d2, d3] => { results := [.lit (.bool true)], args := [d1, d2, d3] }
  | _ => none }
def coordBeginsRow : OpenClaim := { program := "ythjinahfhpgpmaa", sum := "dfa57228c0311c5df690126cbf497fd06d00b6208a3c4513dfbaeeaad9c26cad", func := "leat/leatlaw18.CoordBegins", spec := "coordBegins", unfollowed := true, recurses := true, apart := false }
def CoordBeginsSaid : Prop := coordBeginsRow.holds Try.pinned (OpenSpec.ofChange coordBeginsSpec)

/-- ITS FALSE NEIGHBOUR: 'it returns false'. Refute it at one input. -/
def coordBeginsWrong : ChangeSpec := { name := "coordBegins", fn := fun _ => fun
  | [d1, d2, d3] => { results := [.lit (.bool false)], args := [d1, d2, d3] }
  | _ => none }
def CoordBeginsWrongFalsely : Prop := coordBeginsRow.holds Try.pinned (OpenSpec.ofChange coordBeginsWrong)

/-- 'leatlaw18.CoordNumbers': WHATEVER THE INPUT: true; the input reads as it did. -/
def coordNumbersSpec : ChangeSpec := { name := "coordNumbers", fn := fun _ => fun
  | [d1, d2, d3] => { results := [.lit (.bool true)], args := [d1, d2, d3] }
  | _ => none }
def coordNumbersRow : OpenClaim := { program := "ythjinahfhpgpmaa", sum := "dfa57228c0311c5df690126cbf497fd06d00b6208a3c4513dfbaeeaad9c26cad", func := "leat/leatlaw18.CoordNumbers", spec := "coordNumbers", unfollowed := true, recurses := true, apart := false }
def CoordNumbersSaid : Prop := coordNumbersRow.holds Try.pinned (OpenSpec.ofChange coordNumbersSpec)

/-- ITS FALSE NEIGHBOUR: 'it returns false'. Refute it at one input. -/
def coordNumbersWrong : ChangeSpec := { name := "coordNumbers", fn := fun _ => fun
  | [d1, d2, d3] => { results := [.lit (.bool false)], args := [d1, d2, d3] }
  | _ => none }
def CoordNumbersWrongFalsely : Prop := coordNumbersRow.holds Try.pinned (OpenSpec.ofChange coordNumbersWrong)

/-- 'leatlaw18.CoordWaits': WHATEVER THE INPUT: true; the input reads as it did. -/
def coordWaitsSpec : ChangeSpec := { name := "coordWaits", fn := fun _ => fun
  | [d1, d2, d3, d4] => { results := [.lit (.bool true)], args := [d1, d2, d3, d4] }
  | _ => none }
def coordWaitsRow : OpenClaim := { program := "ythjinahfhpgpmaa", sum := "dfa57228c0311c5df690126cbf497fd06d00b6208a3c4513dfbaeeaad9c26cad", func := "leat/leatlaw18.CoordWaits", spec := "coordWaits", unfollowed := true, recurses := true, apart := false }
def CoordWaitsSaid : Prop := coordWaitsRow.holds Try.pinned (OpenSpec.ofChange coordWaitsSpec)

/-- ITS FALSE NEIGHBOUR: 'it returns false'. Refute it at one input. -/
def coordWaitsWrong : ChangeSpec := { name := "coordWaits", fn := fun _ => fun
  | [d1, d2, d3, d4] => { results := [.lit (.bool false)], args := [d1, d2, d3, d4] }
  | _ => none }
def CoordWaitsWrongFalsely : Prop := coordWaitsRow.holds Try.pinned (OpenSpec.ofChange coordWaitsWrong)

/- THE SECOND FORM. 'bulk': how many values and letters a reading holds, each counted each time it is reached (what is shared counts as often as it is met; a slice's spare places count too). A statement '..UptoSaid' is the law's where the arguments, and the package variables that the reading takes, are together of bulk at most 1048576: NARROWER than '..Said'. Prove '..Said' where nothing that the law and all that it calls make is longer than what came in: it says more and counts as full. Else prove '..UptoSaid'. A law counts once. -/
mutual
def uptoBulk {H : Type} : DataW H → Nat
  | .lit (.string bytes) => bytes.length + 1
  | .lit _ => 1
  | .nil => 1
  | .ptr d => uptoBulk d + 1
  | .slice elems spare => uptoBulkAll elems + uptoBulkAll spare + 1
  | .agg parts => uptoBulkAll parts + 1
  | .iface _ d => uptoBulk d + 1
  | .map entries => uptoBulkEntries entries + 1
  | .held _ => 1
def uptoBulkAll {H : Type} : List (DataW H) → Nat
  | [] => 0
  | d :: r => uptoBulk d + uptoBulkAll r
def uptoBulkEntries {H : Type} : List (Lit × DataW H) → Nat
  | [] => 0
  | x :: r => uptoBulkEntry x + uptoBulkEntries r
def uptoBulkEntry {H : Type} : Lit × DataW H → Nat
  | (.string bytes, d) => bytes.length + uptoBulk d + 1
  | (_, d) => uptoBulk d + 1
 end
def uptoSmall : (H : Type) → List (DataW H) → Bool := fun _ ds => decide (uptoBulkAll ds ≤ 1048576)
def OpenSpec.upto (s : _root_.Go.ChangeSpec) : _root_.Go.OpenSpec := { _root_.Go.OpenSpec.ofChange s with cond := some uptoSmall }

/-- 'leatlaw18.CoordComes', WHERE WHAT IT READS IS OF BULK AT MOST 1048576: true; the input reads as it did. -/
def coordComesUptoRow : OpenClaim := { program := "ythjinahfhpgpmaa", sum := "dfa57228c0311c5df690126cbf497fd06d00b6208a3c4513dfbaeeaad9c26cad", func := "leat/leatlaw18.CoordComes", spec := "coordComes", unfollowed := true, recurses := true, apart := false, narrowed := true }
def CoordComesUptoSaid : Prop := coordComesUptoRow.holds Try.pinned (OpenSpec.upto coordComesSpec)

/-- 'leatlaw18.CoordOld', WHERE WHAT IT READS IS OF BULK AT MOST 1048576: true; the input reads as it did. -/
def coordOldUptoRow : OpenClaim := { program := "ythjinahfhpgpmaa", sum := "dfa57228c0311c5df690126cbf497fd06d00b6208a3c4513dfbaeeaad9c26cad", func := "leat/leatlaw18.CoordOld", spec := "coordOld", unfollowed := true, recurses := true, apart := false, narrowed := true }
def CoordOldUptoSaid : Prop := coordOldUptoRow.holds Try.pinned (OpenSpec.upto coordOldSpec)

/-- 'leatlaw18.CoordBegins', WHERE WHAT IT READS IS OF BULK AT MOST 1048576: true; the input reads as it did. -/
def coordBeginsUptoRow : OpenClaim := { program := "ythjinahfhpgpmaa", sum := "dfa57228c0311c5df690126cbf497fd06d00b6208a3c4513dfbaeeaad9c26cad", func := "leat/leatlaw18.CoordBegins", spec := "coordBegins", unfollowed := true, recurses := true, apart := false, narrowed := true }
def CoordBeginsUptoSaid : Prop := coordBeginsUptoRow.holds Try.pinned (OpenSpec.upto coordBeginsSpec)

/-- 'leatlaw18.CoordNumbers', WHERE WHAT IT READS IS OF BULK AT MOST 1048576: true; the input reads as it did. -/
def coordNumbersUptoRow : OpenClaim := { program := "ythjinahfhpgpmaa", sum := "dfa57228c0311c5df690126cbf497fd06d00b6208a3c4513dfbaeeaad9c26cad", func := "leat/leatlaw18.CoordNumbers", spec := "coordNumbers", unfollowed := true, recurses := true, apart := false, narrowed := true }
def CoordNumbersUptoSaid : Prop := coordNumbersUptoRow.holds Try.pinned (OpenSpec.upto coordNumbersSpec)

/-- 'leatlaw18.CoordWaits', WHERE WHAT IT READS IS OF BULK AT MOST 1048576: true; the input reads as it did. -/
def coordWaitsUptoRow : OpenClaim := { program := "ythjinahfhpgpmaa", sum := "dfa57228c0311c5df690126cbf497fd06d00b6208a3c4513dfbaeeaad9c26cad", func := "leat/leatlaw18.CoordWaits", spec := "coordWaits", unfollowed := true, recurses := true, apart := false, narrowed := true }
def CoordWaitsUptoSaid : Prop := coordWaitsUptoRow.holds Try.pinned (OpenSpec.upto coordWaitsSpec)

end Rows
end Go.Proofs.Ythjinahfhpgpmaa

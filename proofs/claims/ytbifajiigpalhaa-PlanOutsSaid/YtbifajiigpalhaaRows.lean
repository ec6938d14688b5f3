/-
  NARROWER THAN 'FOR EVERY INPUT', by the rows' own cells (each row's printed sentence says how): PlanMake: loops · PlanOuts: loops · PlanCounts: loops.
  DERIVED. THE GIVEN ROWS OF THIS SEAT. 5 by the template 'for every input the law returns true; each argument reads behind the call as it read before'; 0 by the template 'total and deterministic' (their statements: YtbifajiigpalhaaTotals.lean).
  GIVEN WITH THE SEED: the statements are not yours to turn. If you find one false, say at which input.
  Laid BY PROGRAM, IN A SANDBOX (cutbox-rows.mjs): the forced cells as the released guide's own fill.sh prints them over the translation 94885a5eebb707c0… (all of the seat's roots in one cut). By AI agents, Wed Nov 11 2026. No macro, syntax, notation, axiom, sorry.
-/
import Derived.Test.YtbifajiigpalhaaChecked
import GoSem.Claim
import GoSem.ClaimJoined
import GoSem.ClaimMapViews
import Derived.JoinedTies
import Derived.KernelRfl
namespace Go.Proofs.Ytbifajiigpalhaa
/- THE CELL 'sum', in the pinned program and in every row, IS THE sha256 OF THE DUMP (.gsa) THAT YtbifajiigpalhaaProg.lean LOADS. Nothing in Lean hashes anything: it is a label: what it is worth is what the hold of that sum in a sandbox is worth. -/
noncomputable def Try.pinned : Pinned := { name := "ytbifajiigpalhaa", sum := "94885a5eebb707c0ba6bd11a84c2b6201a1b70cdb9cc27ea1d41baf5fbefef1e", checked := Try.checked }
namespace Rows
def none {H : Type} : Left H := { results := [], args := [] }

/-- 'leatlaw9.PlanMake': WHATEVER THE INPUT: true; the input reads as it did. -/
def planMakeSpec : ChangeSpec := { name := "planMake", fn := fun _ => fun
  | [d] => { results := [.lit (.bool true)], args := [d] }
  | _ => none }
def planMakeRow : OpenClaim := { program := "ytbifajiigpalhaa", sum := "94885a5eebb707c0ba6bd11a84c2b6201a1b70cdb9cc27ea1d41baf5fbefef1e", func := "leat/leatlaw9.PlanMake", spec := "planMake", unfollowed := true, recurses := true, loops := true, apart := false }
def PlanMakeSaid : Prop := planMakeRow.holds Try.pinned (OpenSpec.ofChange planMakeSpec)

/-- ITS FALSE NEIGHBOUR: 'it returns false'. Refute it at one input. -/
def planMakeWrong : ChangeSpec := { name := "planMake", fn := fun _ => fun
  | [d] => { results := [.lit (.bool false)], args := [d] }
  | _ => none }
def PlanMakeWrongFalsely : Prop := planMakeRow.holds Try.pinned (OpenSpec.ofChange planMakeWrong)

/-- 'leatlaw9.PlanOuts': WHATEVER THE INPUT: true; the input reads as it did. -/
def planOutsSpec : ChangeSpec := { name := "planOuts", fn := fun _ => fun
  | [d1, d2] => { results := [.lit (.bool true)], args := [d1, d2] }
  | _ => none }
def planOutsRow : OpenClaim := { program := "ytbifajiigpalhaa", sum := "94885a5eebb707c0ba6bd11a84c2b6201a1b70cdb9cc27ea1d41baf5fbefef1e", func := "leat/leatlaw9.PlanOuts", spec := "planOuts", unfollowed := true, recurses := true, loops := true, apart := false }
def PlanOutsSaid : Prop := planOutsRow.holds Try.pinned (OpenSpec.ofChange planOutsSpec)

/-- ITS FALSE NEIGHBOUR: 'it returns false'. Refute it at one input. -/
def planOutsWrong : ChangeSpec := { name := "planOuts", fn := fun _ => fun
  | [d1, d2] => { results := [.lit (.bool false)], args := [d1, d2] }
  | _ => none }
def PlanOutsWrongFalsely : Prop := planOutsRow.holds Try.pinned (OpenSpec.ofChange planOutsWrong)

/-- 'leatlaw9.PlanGroups': WHATEVER THE INPUT: true; the input reads as it did. -/
def planGroupsSpec : ChangeSpec := { name := "planGroups", fn := fun _ => fun
  | [d1, d2] => { results := [.lit (.bool true)], args := [d1, d2] }
  | _ => none }
def planGroupsRow : OpenClaim := { program := "ytbifajiigpalhaa", sum := "94885a5eebb707c0ba6bd11a84c2b6201a1b70cdb9cc27ea1d41baf5fbefef1e", func := "leat/leatlaw9.PlanGroups", spec := "planGroups", unfollowed := true, recurses := true, apart := false }
def PlanGroupsSaid : Prop := planGroupsRow.holds Try.pinned (OpenSpec.ofChange planGroupsSpec)

/-- ITS FALSE NEIGHBOUR: 'it returns false'. Refute it at one input. -/
def planGroupsWrong : ChangeSpec := { name := "planGroups", fn := fun _ => fun
  | [d1, d2] => { results := [.lit (.bool false)], args := [d1, d2] }
  | _ => none }
def PlanGroupsWrongFalsely : Prop := planGroupsRow.holds Try.pinned (OpenSpec.ofChange planGroupsWrong)

/-- 'leatlaw9.PlanCounts': WHATEVER THE INPUT: true; the input reads as it did. -/
def planCountsSpec : ChangeSpec := { name := "planCounts", fn := fun _ => fun
  | [d] => { results := [.lit (.bool true)], args := [d] }
  | _ => none }
def planCountsRow : OpenClaim := { program := "ytbifajiigpalhaa", sum := "94885a5eebb707c0ba6bd11a84c2b6201a1b70cdb9cc27ea1d41baf5fbefef1e", func := "leat/leatlaw9.PlanCounts", spec := "planCounts", unfollowed := true, recurses := true, loops := true, apart := false }
def PlanCountsSaid : Prop := planCountsRow.holds Try.pinned (OpenSpec.ofChange planCountsSpec)

/-- ITS FALSE NEIGHBOUR: 'it returns false'. Refute it at one input. -/
def planCountsWrong : ChangeSpec := { name := "planCounts", fn := fun _ => fun
  | [d] => { results := [.lit (.bool false)], args := [d] }
  | _ => none }
def PlanCountsWrongFalsely : Prop := planCountsRow.holds Try.pinned (OpenSpec.ofChange planCountsWrong)

/-- 'leatlaw9.PlanSpreads': WHATEVER THE INPUT: true; the input reads as it did. -/
def planSpreadsSpec : ChangeSpec := { name := "planSpreads", fn := fun _ => fun
  | [d1, d2] => { results := [.lit (.bool true)], args := [d1, d2] }
  | _ => none }
def planSpreadsRow : OpenClaim := { program := "ytbifajiigpalhaa", sum := "94885a5eebb707c0ba6bd11a84c2b6201a1b70cdb9cc27ea1d41baf5fbefef1e", func := "leat/leatlaw9.PlanSpreads", spec := "planSpreads", unfollowed := true, recurses := true, apart := false }
def PlanSpreadsSaid : Prop := planSpreadsRow.holds Try.pinned (OpenSpec.ofChange planSpreadsSpec)

/-- ITS FALSE NEIGHBOUR: 'it returns false'. Refute it at one input. -/
def planSpreadsWrong : ChangeSpec := { name := "planSpreads", fn := fun _ => fun
  | [d1, d2] => { results := [.lit (.bool false)], args := [d1, d2] }
  | _ => none }
def PlanSpreadsWrongFalsely : Prop := planSpreadsRow.holds Try.pinned (OpenSpec.ofChange planSpreadsWrong)

/- THE SECOND FORM. 'bulk': how many values and letters a reading holds, each counted each time it is reached (what is shared counts as often as it is met; a slice's spare places count too). A statement '..UptoSaid' is the law's where the arguments, and the package variables that the reading takes, are together of bulk at most 1048576: NARROWER than '..Said'. Prove '..Said' where nothing that the law and all that it calls make is longer than what came in: it says more and counts as full. Else prove '..UptoSaid'. A law counts once. -/
mutual
def uptoBulk {H : Type} : DataW H → Nat
  | .lit (.string bytes) => bytes.length + 1
  | .lit _ => 1
  | .nil => 1
  | .ptr d => uptoBulk d + 1
  | .slice elems spare => uptoBulkAll elems + uptoBulkAll spare + 1
  | .agg parts => uptoBulkAll parts + 1
  | .iface _ d => uptoBulk d + 1
  | .map entries => uptoBulkEntries entries + 1
  | .held _ => 1
def uptoBulkAll {H : Type} : List (DataW H) → Nat
  | [] => 0
  | d :: r => uptoBulk d + uptoBulkAll r
def uptoBulkEntries {H : Type} : List (Lit × DataW H) → Nat
  | [] => 0
  | x :: r => uptoBulkEntry x + uptoBulkEntries r
def uptoBulkEntry {H : Type} : Lit × DataW H → Nat
  | (.string bytes, d) => bytes.length + uptoBulk d + 1
  | (_, d) => uptoBulk d + 1
 end
def uptoSmall : (H : Type) → List (DataW H) → Bool := fun _ ds => decide (uptoBulkAll ds ≤ 1048576)
def OpenSpec.upto (s : _root_.Go.ChangeSpec) : _root_.Go.OpenSpec := { _root_.Go.OpenSpec.ofChange s with cond := some uptoSmall }

/-- 'leatlaw9.PlanMake', WHERE WHAT IT READS IS OF BULK AT MOST 1048576: true; the input reads as it did. -/
def planMakeUptoRow : OpenClaim := { program := "ytbifajiigpalhaa", sum := "94885a5eebb707c0ba6bd11a84c2b6201a1b70cdb9cc27ea1d41baf5fbefef1e", func := "leat/leatlaw9.PlanMake", spec := "planMake", unfollowed := true, recurses := true, loops := true, apart := false, narrowed := true }
def PlanMakeUptoSaid : Prop := planMakeUptoRow.holds Try.pinned (OpenSpec.upto planMakeSpec)

/-- 'leatlaw9.PlanOuts', WHERE WHAT IT READS IS OF BULK AT MOST 1048576: true; the input reads as it did. -/
def planOutsUptoRow : OpenClaim := { program := "ytbifajiigpalhaa", sum := "94885a5eebb707c0ba6bd11a84c2b6201a1b70cdb9cc27ea1d41baf5fbefef1e", func := "leat/leatlaw9.PlanOuts", spec := "planOuts", unfollowed := true, recurses := true, loops := true, apart := false, narrowed := true }
def PlanOutsUptoSaid : Prop := planOutsUptoRow.holds Try.pinned (OpenSpec.upto planOutsSpec)

/-- 'leatlaw9.PlanGroups', WHERE WHAT IT READS IS OF BULK AT MOST 1048576: true; the input reads as it did. -/
def planGroupsUptoRow : OpenClaim := { program := "ytbifajiigpalhaa", sum := "94885a5eebb707c0ba6bd11a84c2b6201a1b70cdb9cc27ea1d41baf5fbefef1e", func := "leat/leatlaw9.PlanGroups", spec := "planGroups", unfollowed := true, recurses := true, apart := false, narrowed := true }
def PlanGroupsUptoSaid : Prop := planGroupsUptoRow.holds Try.pinned (OpenSpec.upto planGroupsSpec)

/-- 'leatlaw9.PlanCounts', WHERE WHAT IT READS IS OF BULK AT MOST 1048576: true; the input reads as it did. -/
def planCountsUptoRow : OpenClaim := { program := "ytbifajiigpalhaa", sum := "94885a5eebb707c0ba6bd11a84c2b6201a1b70cdb9cc27ea1d41baf5fbefef1e", func := "leat/leatlaw9.PlanCounts", spec := "planCounts", unfollowed := true, recurses := true, loops := true, apart := false, narrowed := true }
def PlanCountsUptoSaid : Prop := planCountsUptoRow.holds Try.pinned (OpenSpec.upto planCountsSpec)

/-- 'leatlaw9.PlanSpreads', WHERE WHAT IT READS IS OF BULK AT MOST 1048576: true; the input reads as it did. -/
def planSpreadsUptoRow : OpenClaim := { program := "ytbifajiigpalhaa", sum := "94885a5eebb707c0ba6bd11a84c2b6201a1b70cdb9cc27ea1d41baf5fbefef1e", func := "leat/leatlaw9.PlanSpreads", spec := "planSpreads", unfollowed := true, recurses := true, apart := false, narrowed := true }
def PlanSpreadsUptoSaid : Prop := planSpreadsUptoRow.holds Try.pinned (OpenSpec.upto planSpreadsSpec)

end Rows
end Go.Proofs.Ytbifajiigpalhaa

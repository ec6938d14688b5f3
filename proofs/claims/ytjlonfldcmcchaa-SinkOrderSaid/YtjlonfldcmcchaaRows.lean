/-
  No cell of these rows narrows 'for every input' (looked for: loops, veiled, ifaces, maps, wideKeys, modest, calm, conditions, laid).
  DERIVED. THE GIVEN ROWS OF THIS SEAT. 5 by the template 'for every input the law returns true; each argument reads behind the call as it read before'; 0 by the template 'total and deterministic' (their statements: YtjlonfldcmcchaaTotals.lean).
  GIVEN WITH THE SEED: the statements are not yours to turn. If you find one false, say at which input.
  Laid BY PROGRAM, IN A SANDBOX (cutbox-rows.mjs): the forced cells as the released guide's own fill.sh prints them over the translation e158377c0e03b137… (all of the seat's roots in one cut). By AI agents, Wed Nov 11 2026. No macro, syntax, notation, axiom, sorry.
-/
import Derived.Test.YtjlonfldcmcchaaChecked
import GoSem.Claim
import GoSem.ClaimJoined
import GoSem.ClaimMapViews
import Derived.JoinedTies
import Derived.KernelRfl
namespace Go.Proofs.Ytjlonfldcmcchaa
/- THE CELL 'sum', in the pinned program and in every row, IS THE sha256 OF THE DUMP (.gsa) THAT YtjlonfldcmcchaaProg.lean LOADS. Nothing in Lean hashes anything: it is a label: what it is worth is what the hold of that sum in a sandbox is worth. -/
noncomputable def Try.pinned : Pinned := { name := "ytjlonfldcmcchaa", sum := "e158377c0e03b137aa8b2385c5df8e7b6de270c09a0c223ce27f4e0764e07b60", checked := Try.checked }
namespace Rows
def none {H : Type} : Left H := { results := [], args := [] }

/-- 'leatlaw17.SinkPlays': WHATEVER THE INPUT: true; the input reads as it did. -/
def sinkPlaysSpec : ChangeSpec := { name := "sinkPlays", fn := fun _ => fun
  | [d] => { results := [.lit (.bool true)], args := [d] }
  | _ => none }
def sinkPlaysRow : OpenClaim := { program := "ytjlonfldcmcchaa", sum := "e158377c0e03b137aa8b2385c5df8e7b6de270c09a0c223ce27f4e0764e07b60", func := "leat/leatlaw17.SinkPlays", spec := "sinkPlays", unfollowed := true, recurses := true, apart := false }
def SinkPlaysSaid : Prop := sinkPlaysRow.holds Try.pinned (OpenSpec.ofChange sinkPlaysSpec)

/-- ITS FALSE NEIGHBOUR: 'it returns false'. Refute it at one input. -/
def sinkPlaysWrong : ChangeSpec := { name := "sinkPlays", fn := fun _ => fun
  | [d] => { results := [.lit (.bool false)], args := [d] }
  | _ => none }
def SinkPlaysWrongFalsely : Prop := sinkPlaysRow.holds Try.pinned (OpenSpec.ofChange sinkPlaysWrong)

/-- 'leatlaw17.SinkGrows': WHATEVER THE INPUT: true; the input reads as it did. -/
def sinkGrowsSpec : ChangeSpec := { name := "sinkGrows", fn := fun _ => fun
  | [d1, d2] => { results := [.lit (.bool true)], args := [d1, d2] }
  | _ => none }
def sinkGrowsRow : OpenClaim := { program := "ytjlonfldcmcchaa", sum := "e158377c0e03b137aa8b2385c5df8e7b6de270c09a0c223ce27f4e0764e07b60", func := "leat/leatlaw17.SinkGrows", spec := "sinkGrows", unfollowed := true, recurses := true, apart := false }
def SinkGrowsSaid : Prop := sinkGrowsRow.holds Try.pinned (OpenSpec.ofChange sinkGrowsSpec)

/-- ITS FALSE NEIGHBOUR: 'it returns false'. Refute it at one input. -/
def sinkGrowsWrong : ChangeSpec := { name := "sinkGrows", fn := fun _ => fun
  | [d1, d2] => { results := [.lit (.bool false)], args := [d1, d2] }
  | _ => none }
def SinkGrowsWrongFalsely : Prop := sinkGrowsRow.holds Try.pinned (OpenSpec.ofChange sinkGrowsWrong)

/-- 'leatlaw17.SinkParts': WHATEVER THE INPUT: true; the input reads as it did. -/
def sinkPartsSpec : ChangeSpec := { name := "sinkParts", fn := fun _ => fun
  | [d] => { results := [.lit (.bool true)], args := [d] }
  | _ => none }
def sinkPartsRow : OpenClaim := { program := "ytjlonfldcmcchaa", sum := "e158377c0e03b137aa8b2385c5df8e7b6de270c09a0c223ce27f4e0764e07b60", func := "leat/leatlaw17.SinkParts", spec := "sinkParts", unfollowed := true, recurses := true, apart := false }
def SinkPartsSaid : Prop := sinkPartsRow.holds Try.pinned (OpenSpec.ofChange sinkPartsSpec)

/-- ITS FALSE NEIGHBOUR: 'it returns false'. Refute it at one input. -/
def sinkPartsWrong : ChangeSpec := { name := "sinkParts", fn := fun _ => fun
  | [d] => { results := [.lit (.bool false)], args := [d] }
  | _ => none }
def SinkPartsWrongFalsely : Prop := sinkPartsRow.holds Try.pinned (OpenSpec.ofChange sinkPartsWrong)

/-- 'leatlaw17.SinkReplays': WHATEVER THE INPUT: true; the input reads as it did. -/
def sinkReplaysSpec : ChangeSpec := { name := "sinkReplays", fn := fun _ => fun
  | [d1, d2] => { results := [.lit (.bool true)], args := [d1, d2] }
  | _ => none }
def sinkReplaysRow : OpenClaim := { program := "ytjlonfldcmcchaa", sum := "e158377c0e03b137aa8b2385c5df8e7b6de270c09a0c223ce27f4e0764e07b60", func := "leat/leatlaw17.SinkReplays", spec := "sinkReplays", unfollowed := true, recurses := true, apart := false }
def SinkReplaysSaid : Prop := sinkReplaysRow.holds Try.pinned (OpenSpec.ofChange sinkReplaysSpec)

/-- ITS FALSE NEIGHBOUR: 'it returns false'. Refute it at one input. -/
def sinkReplaysWrong : ChangeSpec := { name := "sinkReplays", fn := fun _ => fun
  | [d1, d2] => { results := [.lit (.bool false)], args := [d1, d2] }
  | _ => none }
def SinkReplaysWrongFalsely : Prop := sinkReplaysRow.holds Try.pinned (OpenSpec.ofChange sinkReplaysWrong)

/-- 'leatlaw17.SinkOrder': WHATEVER THE INPUT: true; the input reads as it did. -/
def sinkOrderSpec : ChangeSpec := { name := "sinkOrder", fn := fun _ => fun
  | [d1, d2] => { results := [.lit (.bool true)], args := [d1, d2] }
  | _ => none }
def sinkOrderRow : OpenClaim := { program := "ytjlonfldcmcchaa", sum := "e158377c0e03b137aa8b2385c5df8e7b6de270c09a0c223ce27f4e0764e07b60", func := "leat/leatlaw17.SinkOrder", spec := "sinkOrder", unfollowed := true, recurses := true, apart := false }
def SinkOrderSaid : Prop := sinkOrderRow.holds Try.pinned (OpenSpec.ofChange sinkOrderSpec)

/-- ITS FALSE NEIGHBOUR: 'it returns false'. Refute it at one input. -/
def sinkOrderWrong : ChangeSpec := { name := "sinkOrder", fn := fun _ => fun
  | [d1, d2] => { results := [.lit (.bool false)], args := [d1, d2] }
  | _ => none }
def SinkOrderWrongFalsely : Prop := sinkOrderRow.holds Try.pinned (OpenSpec.ofChange sinkOrderWrong)

/- THE SECOND FORM. 'bulk': how many values and letters a reading holds, each counted each time it is reached (what is shared counts as often as it is met; a slice's spare places count too). A statement '..UptoSaid' is the law's where the arguments, and the package variables that the reading takes, are together of bulk at most 1048576: NARROWER than '..Said'. Prove '..Said' where nothing that the law and all that it calls make is longer than what came in: it says more and counts as full. Else prove '..UptoSaid'. A law counts once. -/
mutual
def uptoBulk {H : Type} : DataW H → Nat
  | .lit (.string bytes) => bytes.length + 1
  | .lit _ => 1
  | .nil => 1
  | .ptr d => uptoBulk d + 1
  | .slice elems spare => uptoBulkAll elems + uptoBulkAll spare + 1
  | .agg parts => uptoBulkAll parts + 1
  | .iface _ d => uptoBulk d + 1
  | .map entries => uptoBulkEntries entries + 1
  | .held _ => 1
def uptoBulkAll {H : Type} : List (DataW H) → Nat
  | [] => 0
  | d :: r => uptoBulk d + uptoBulkAll r
def uptoBulkEntries {H : Type} : List (Lit × DataW H) → Nat
  | [] => 0
  | x :: r => uptoBulkEntry x + uptoBulkEntries r
def uptoBulkEntry {H : Type} : Lit × DataW H → Nat
  | (.string bytes, d) => bytes.length + uptoBulk d + 1
  | (_, d) => uptoBulk d + 1
 end
def uptoSmall : (H : Type) → List (DataW H) → Bool := fun _ ds => decide (uptoBulkAll ds ≤ 1048576)
def OpenSpec.upto (s : _root_.Go.ChangeSpec) : _root_.Go.OpenSpec := { _root_.Go.OpenSpec.ofChange s with cond := some uptoSmall }

/-- 'leatlaw17.SinkPlays', WHERE WHAT IT READS IS OF BULK AT MOST 1048576: true; the input reads as it did. -/
def sinkPlaysUptoRow : OpenClaim := { program := "ytjlonfldcmcchaa", sum := "e158377c0e03b137aa8b2385c5df8e7b6de270c09a0c223ce27f4e0764e07b60", func := "leat/leatlaw17.SinkPlays", spec := "sinkPlays", unfollowed := true, recurses := true, apart := false, narrowed := true }
def SinkPlaysUptoSaid : Prop := sinkPlaysUptoRow.holds Try.pinned (OpenSpec.upto sinkPlaysSpec)

/-- 'leatlaw17.SinkGrows', WHERE WHAT IT READS IS OF BULK AT MOST 1048576: true; the input reads as it did. -/
def sinkGrowsUptoRow : OpenClaim := { program := "ytjlonfldcmcchaa", sum := "e158377c0e03b137aa8b2385c5df8e7b6de270c09a0c223ce27f4e0764e07b60", func := "leat/leatlaw17.SinkGrows", spec := "sinkGrows", unfollowed := true, recurses := true, apart := false, narrowed := true }
def SinkGrowsUptoSaid : Prop := sinkGrowsUptoRow.holds Try.pinned (OpenSpec.upto sinkGrowsSpec)

/-- 'leatlaw17.SinkParts', WHERE WHAT IT READS IS OF BULK AT MOST 1048576: true; the input reads as it did. -/
def sinkPartsUptoRow : OpenClaim := { program := "ytjlonfldcmcchaa", sum := "e158377c0e03b137aa8b2385c5df8e7b6de270c09a0c223ce27f4e0764e07b60", func := "leat/leatlaw17.SinkParts", spec := "sinkParts", unfollowed := true, recurses := true, apart := false, narrowed := true }
def SinkPartsUptoSaid : Prop := sinkPartsUptoRow.holds Try.pinned (OpenSpec.upto sinkPartsSpec)

/-- 'leatlaw17.SinkReplays', WHERE WHAT IT READS IS OF BULK AT MOST 1048576: true; the input reads as it did. -/
def sinkReplaysUptoRow : OpenClaim := { program := "ytjlonfldcmcchaa", sum := "e158377c0e03b137aa8b2385c5df8e7b6de270c09a0c223ce27f4e0764e07b60", func := "leat/leatlaw17.SinkReplays", spec := "sinkReplays", unfollowed := true, recurses := true, apart := false, narrowed := true }
def SinkReplaysUptoSaid : Prop := sinkReplaysUptoRow.holds Try.pinned (OpenSpec.upto sinkReplaysSpec)

/-- 'leatlaw17.SinkOrder', WHERE WHAT IT READS IS OF BULK AT MOST 1048576: true; the input reads as it did. -/
def sinkOrderUptoRow : OpenClaim := { program := "ytjlonfldcmcchaa", sum := "e158377c0e03b137aa8b2385c5df8e7b6de270c09a0c223ce27f4e0764e07b60", func := "leat/leatlaw17.SinkOrder", spec := "sinkOrder", unfollowed := true, recurses := true, apart := false, narrowed := true }
def SinkOrderUptoSaid : Prop := sinkOrderUptoRow.holds Try.pinned (OpenSpec.upto sinkOrderSpec)

end Rows
end Go.Proofs.Ytjlonfldcmcchaa

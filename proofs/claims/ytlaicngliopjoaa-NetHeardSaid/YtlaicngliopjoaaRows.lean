/-
  No cell of these rows narrows 'for every input' (looked for: loops, veiled, ifaces, maps, wideKeys, modest, calm, conditions, laid).
  DERIVED. THE GIVEN ROWS OF THIS SEAT. 3 by the template 'for every input the law returns true; each argument reads behind the call as it read before'; 0 by the template 'total and deterministic' (their statements: YtlaicngliopjoaaTotals.lean).
  GIVEN WITH THE SEED: the statements are not yours to turn. If you find one false, say at which input.
  Laid BY PROGRAM, IN A SANDBOX (cutbox-rows.mjs): the forced cells as the released guide's own fill.sh prints them over the translation 1a546c7a1fa3250a… (all of the seat's roots in one cut). By AI agents, Wed Nov 11 2026. No macro, syntax, notation, axiom, sorry.
-/
import Derived.Test.YtlaicngliopjoaaChecked
import GoSem.Claim
import GoSem.ClaimJoined
import GoSem.ClaimMapViews
import Derived.JoinedTies
import Derived.KernelRfl
namespace Go.Proofs.Ytlaicngliopjoaa
/- THE CELL 'sum', in the pinned program and in every row, IS THE sha256 OF THE DUMP (.gsa) THAT YtlaicngliopjoaaProg.lean LOADS. Nothing in Lean hashes anything: it is a label: what it is worth is what the hold of that sum in a sandbox is worth. -/
noncomputable def Try.pinned : Pinned := { name := "ytlaicngliopjoaa", sum := "1a546c7a1fa3250a4063cd82f085d6ab762bd3735032354177b58673b2167fae", checked := Try.checked }
namespace Rows
def none {H : Type} : Left H := { results := [], args := [] }

/-- 'leatlaw5.NetCloud': WHATEVER THE INPUT: true; the input reads as it did. -/
def netCloudSpec : ChangeSpec := { name := "netCloud", fn := fun _ => fun
  | [d] => { results := [.lit (.bool true)], args := [d] }
  | _ => none }
def netCloudRow : OpenClaim := { program := "ytlaicngliopjoaa", sum := "1a546c7a1fa3250a4063cd82f085d6ab762bd3735032354177b58673b2167fae", func := "leat/leatlaw5.NetCloud", spec := "netCloud", apart := false }
def NetCloudSaid : Prop := netCloudRow.holds Try.pinned (OpenSpec.ofChange netCloudSpec)

/-- ITS FALSE NEIGHBOUR: 'it returns false'. Refute it at one input. -/
def netCloudWrong : ChangeSpec := { name := "netCloud", fn := fun _ => fun
  | [d] => { results := [.lit (.bool false)], args := [d] }
  | _ => none }
def NetCloudWrongFalsely : Prop := netCloudRow.holds Try.pinned (OpenSpec.ofChange netCloudWrong)

/-- 'leatlaw5.NetHeard': WHATEVER THE INPUT: true; the input reads as it did. -/
def netHeardSpec : ChangeSpec := { name := "netHeard", fn := fun _ => fun
  | [d1, d2] => { results := [.lit (.bool true)], args := [d1, d2] }
  | _ => none }
def netHeardRow : OpenClaim := { program := "ytlaicngliopjoaa", sum := "1a546c7a1fa3250a4063cd82f085d6ab762bd3735032354177b58673b2167fae", func := "leat/leatlaw5.NetHeard", spec := "netHeard", apart := false }
def NetHeardSaid : Prop := netHeardRow.holds Try.pinned (OpenSpec.ofChange netHeardSpec)

/-- ITS FALSE NEIGHBOUR: 'it returns false'. Refute it at one input. -/
def netHeardWrong : ChangeSpec := { name := "netHeard", fn := fun _ => fun
  | [d1, d2] => { results := [.lit (.bool false)], args := [d1, d2] }
  | _ => none }
def NetHeardWrongFalsely : Prop := netHeardRow.holds Try.pinned (OpenSpec.ofChange netHeardWrong)

/-- 'leatlaw5.NetLink': WHATEVER THE INPUT: true; the input reads as it did. -/
def netLinkSpec : ChangeSpec := { name := "netLink", fn := fun _ => fun
  | [d1, d2] => { results := [.lit (.bool true)], args := [d1, d2] }
  | _ => none }
def netLinkRow : OpenClaim := { program := "ytlaicngliopjoaa", sum := "1a546c7a1fa3250a4063cd82f085d6ab762bd3735032354177b58673b2167fae", func := "leat/leatlaw5.NetLink", spec := "netLink", apart := false }
def NetLinkSaid : Prop := netLinkRow.holds Try.pinned (OpenSpec.ofChange netLinkSpec)

/-- ITS FALSE NEIGHBOUR: 'it returns false'. Refute it at one input. -/
def netLinkWrong : ChangeSpec := { name := "netLink", fn := fun _ => fun
  | [d1, d2] => { results := [.lit (.bool false)], args := [d1, d2] }
  | _ => none }
def NetLinkWrongFalsely : Prop := netLinkRow.holds Try.pinned (OpenSpec.ofChange netLinkWrong)

/- THE SECOND FORM. 'bulk': how many values and letters a reading holds, each counted each time it is reached (what is shared counts as often as it is met; a slice's spare places count too). A statement '..UptoSaid' is the law's where the arguments, and the package variables that the reading takes, are together of bulk at most 1048576: NARROWER than '..Said'. Prove '..Said' where nothing that the law and all that it calls make is longer than what came in: it says more and counts as full. Else prove '..UptoSaid'. A law counts once. -/
mutual
def uptoBulk {H : Type} : DataW H → Nat
  | .lit (.string bytes) => bytes.length + 1
  | .lit _ => 1
  | .nil => 1
  | .ptr d => uptoBulk d + 1
  | .slice elems spare => uptoBulkAll elems + uptoBulkAll spare + 1
  | .agg parts => uptoBulkAll parts + 1
  | .iface _ d => uptoBulk d + 1
  | .map entries => uptoBulkEntries entries + 1
  | .held _ => 1
def uptoBulkAll {H : Type} : List (DataW H) → Nat
  | [] => 0
  | d :: r => uptoBulk d + uptoBulkAll r
def uptoBulkEntries {H : Type} : List (Lit × DataW H) → Nat
  | [] => 0
  | x :: r => uptoBulkEntry x + uptoBulkEntries r
def uptoBulkEntry {H : Type} : Lit × DataW H → Nat
  | (.string bytes, d) => bytes.length + uptoBulk d + 1
  | (_, d) => uptoBulk d + 1
 end
def uptoSmall : (H : Type) → List (DataW H) → Bool := fun _ ds => decide (uptoBulkAll ds ≤ 1048576)
def OpenSpec.upto (s : _root_.Go.ChangeSpec) : _root_.Go.OpenSpec := { _root_.Go.OpenSpec.ofChange s with cond := some uptoSmall }

/-- 'leatlaw5.NetCloud', WHERE WHAT IT READS IS OF BULK AT MOST 1048576: true; the input reads as it did. -/
def netCloudUptoRow : OpenClaim := { program := "ytlaicngliopjoaa", sum := "1a546c7a1fa3250a4063cd82f085d6ab762bd3735032354177b58673b2167fae", func := "leat/leatlaw5.NetCloud", spec := "netCloud", apart := false, narrowed := true }
def NetCloudUptoSaid : Prop := netCloudUptoRow.holds Try.pinned (OpenSpec.upto netCloudSpec)

/-- 'leatlaw5.NetHeard', WHERE WHAT IT READS IS OF BULK AT MOST 1048576: true; the input reads as it did. -/
def netHeardUptoRow : OpenClaim := { program := "ytlaicngliopjoaa", sum := "1a546c7a1fa3250a4063cd82f085d6ab762bd3735032354177b58673b2167fae", func := "leat/leatlaw5.NetHeard", spec := "netHeard", apart := false, narrowed := true }
def NetHeardUptoSaid : Prop := netHeardUptoRow.holds Try.pinned (OpenSpec.upto netHeardSpec)

/-- 'leatlaw5.NetLink', WHERE WHAT IT READS IS OF BULK AT MOST 1048576: true; the input reads as it did. -/
def netLinkUptoRow : OpenClaim := { program := "ytlaicngliopjoaa", sum := "1a546c7a1fa3250a4063cd82f085d6ab762bd3735032354177b58673b2167fae", func := "leat/leatlaw5.NetLink", spec := "netLink", apart := false, narrowed := true }
def NetLinkUptoSaid : Prop := netLinkUptoRow.holds Try.pinned (OpenSpec.upto netLinkSpec)

end Rows
end Go.Proofs.Ytlaicngliopjoaa

import Derived.Test.YtoiokmfdmpifiaaRg
import Derived.Test.YtoiokmfdmpifiaaLk
import Derived.Test.YtoiokmfdmpifiaaProg
import Derived.Test.YtoiokmfdmpifiaaLs
import Derived.Outline
import Derived.StillTailTactics
import Derived.Deep.DeepCutAuto
import Derived.Deep.CutBlock
import Derived.Deep.LoopGhost
import Derived.Deep.QuietTactic
import Derived.BigQuiet
import Derived.Deep.RegionHeld3
import Derived.Deep.RegionLaw
set_option linter.unusedVariables false
set_option linter.unusedSimpArgs false
namespace Go.Proofs.Ytoiokmfdmpifiaa
open Go.RowKit
/-- What a channel holds. -/
structure Ch (α : Type) where
  (cr : Int) (back : List α) (ep : Int) (mov : List (Int × Int × α)) (wait : List α) (out inn gr : Int)
namespace Ch
variable {α : Type}
def cred (s : Ch α) : Int := s.cr - s.mov.length - s.wait.length
def offer (s : Ch α) (x : α) : Ch α := { s with back := s.back ++ [x] }
def sends (s : Ch α) : Bool := !s.back.isEmpty && decide (0 < s.cred)
def send (s : Ch α) : Ch α := match s.back with
  | [] => s
  | x :: r => if 0 < s.cred then { s with back := r, mov := s.mov ++ [(s.ep, s.out, x)], out := IntKind.u64.wrap (s.out + 1) } else s
def arr (s : Ch α) (e q : Int) : Int := if e ≠ s.ep then 62 else if q ≠ s.inn ∨ s.cr ≤ s.wait.length then 61 else 0
def arrive (s : Ch α) (e q : Int) (x : α) : Ch α := if s.arr e q = 0 then { s with inn := IntKind.u64.wrap (s.inn + 1), wait := s.wait ++ [x], gr := max s.gr (s.wait.length + 1) } else s
def dlv (s : Ch α) : Int := match s.mov with
  | [] => 52
  | m :: r => arr { s with mov := r } m.1 m.2.1
def deliver (s : Ch α) : Ch α := match s.mov with
  | [] => s
  | m :: r => arrive { s with mov := r } m.1 m.2.1 m.2.2
def take (s : Ch α) : Ch α := { s with wait := s.wait.tail }
def kill (s : Ch α) (e : Int) : Ch α := { s with wait := [], mov := [], ep := max s.ep e, back := [], out := 1, inn := 1 }
def rest (s : Ch α) : List α := s.wait ++ s.mov.map (·.2.2) ++ s.back
def drain (s : Ch α) : Ch α := { s with wait := [], mov := [], back := [], inn := s.out }
def fresh (n ep : Int) : Ch α := ⟨min (max n 1) 64, [], ep, [], [], 1, 1, 0⟩
/-- Small enough. -/
structure Ok (s : Ch α) : Prop where
  c1 : 1 ≤ s.cr
  c2 : s.cr ≤ 64
  b : s.back.length ≤ 100000
  m : s.mov.length ≤ 100000
  w : s.wait.length ≤ 100000
end Ch
theorem quiet_same {P : Program} {f : FuncId} {args : Array Value} {w : World} {n : Nat} {v : Value}
    (h : Calls P f args (w.drewN n) fun e w' => e = .returned v ∧ w.drewN n = w') : Calls P f args (w.drewN n) fun e w'' => e = .returned v ∧ ∃ m, w'' = w.drewN m :=
  h.mono fun _ _ ⟨he, hm⟩ => ⟨he, n, hm.symm⟩
theorem still_same {P : Program} {f : FuncId} {args : Array Value} {w : World} {v : Value}
    (h : Calls P f args w fun e w' => e = .returned v ∧ w = w') : Calls P f args w fun e w'' => e = .returned v ∧ w'' = w :=
  h.mono fun _ _ ⟨he, hm⟩ => ⟨he, hm.symm⟩
end Go.Proofs.Ytoiokmfdmpifiaa

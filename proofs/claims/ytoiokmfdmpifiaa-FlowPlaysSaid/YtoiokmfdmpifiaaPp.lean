import Derived.Test.YtoiokmfdmpifiaaCh
import Derived.Test.YtoiokmfdmpifiaaProg
import Derived.Test.YtoiokmfdmpifiaaLs
import Derived.Outline
import Derived.StillTailTactics
import Derived.Deep.DeepCutAuto
import Derived.Deep.CutBlock
import Derived.Deep.LoopGhost
import Derived.Deep.QuietTactic
import Derived.BigQuiet
import Derived.Deep.RegionHeld3
import Derived.Deep.RegionLaw
set_option linter.unusedVariables false
set_option linter.unusedSimpArgs false
namespace Go.Proofs.Ytoiokmfdmpifiaa
open Go.RowKit
/-- What both channels keep, whatever the script. -/
structure Pv (s : Ch Int) (N : Nat) : Prop where
  c1 : 1 ≤ s.cr
  c2 : s.cr ≤ 64
  tot : s.back.length + s.mov.length + s.wait.length ≤ N
  he : ∀ m ∈ s.mov, m.1 = s.ep
theorem Pv.ok {s : Ch Int} {N : Nat} (F : Pv s N) (h : N ≤ 1000) : s.Ok := ⟨F.c1, F.c2, by have := F.tot; omega, by have := F.tot; omega, by have := F.tot; omega⟩
theorem Pv.more {s : Ch Int} {N M : Nat} (F : Pv s N) (h : N ≤ M) : Pv s M := ⟨F.c1, F.c2, by have := F.tot; omega, F.he⟩
theorem Pv.new (n ep : Int) : Pv (Ch.fresh n ep) 0 := ⟨by show 1 ≤ min (max n 1) 64; omega, by show min (max n 1) 64 ≤ 64; omega, by show 0 + 0 + 0 ≤ 0; omega, fun m h => by cases h⟩
theorem Pv.offer {s : Ch Int} {N : Nat} (F : Pv s N) (x : Int) : Pv (s.offer x) (N + 1) := ⟨F.c1, F.c2, by show (s.back ++ [x]).length + s.mov.length + s.wait.length ≤ _; have := F.tot; simp; omega, F.he⟩
theorem Pv.send {s : Ch Int} {N : Nat} (F : Pv s N) : Pv s.send N := by
  unfold Ch.send
  cases hl : s.back with
  | nil => exact F
  | cons x r =>
    simp only
    split
    · refine ⟨F.c1, F.c2, ?_, ?_⟩
      · have := F.tot
        rw [hl] at this
        simp at this ⊢
        omega
      · intro m hm
        rcases List.mem_append.1 hm with h | h
        · exact F.he m h
        · simp at h; subst h; rfl
    · exact F
theorem Pv.arrive {s : Ch Int} {N : Nat} (F : Pv s N) (e q x : Int) : Pv (s.arrive e q x) (N + 1) := by
  unfold Ch.arrive
  split
  · exact ⟨F.c1, F.c2, by show s.back.length + s.mov.length + (s.wait ++ [x]).length ≤ _; have := F.tot; simp; omega, F.he⟩
  · exact F.more (by omega)
theorem Pv.deliver {s : Ch Int} {N : Nat} (F : Pv s N) : Pv s.deliver N := by
  unfold Ch.deliver
  cases hl : s.mov with
  | nil => exact F
  | cons m r =>
    simp only
    have ht := F.tot
    rw [hl] at ht
    simp at ht
    have F1 : Pv { s with mov := r } (N - 1) := ⟨F.c1, F.c2, by show s.back.length + r.length + s.wait.length ≤ _; omega, fun x hx => F.he x (by rw [hl]; exact List.mem_cons_of_mem _ hx)⟩
    exact (F1.arrive m.1 m.2.1 m.2.2).more (by omega)
theorem Pv.take {s : Ch Int} {N : Nat} (F : Pv s N) : Pv s.take N := ⟨F.c1, F.c2, by show s.back.length + s.mov.length + s.wait.tail.length ≤ _; have := F.tot; simp; omega, F.he⟩
theorem Pv.drain {s : Ch Int} {N : Nat} (F : Pv s N) : Pv s.drain N := ⟨F.c1, F.c2, by show 0 + 0 + 0 ≤ _; omega, fun m h => by cases h⟩
theorem Pv.kill {s : Ch Int} {N : Nat} (F : Pv s N) (n : Int) : Pv (s.kill n) N := ⟨F.c1, F.c2, by show 0 + 0 + 0 ≤ _; omega, fun m h => by cases h⟩
theorem Pv.rest {s : Ch Int} {N : Nat} (F : Pv s N) : s.rest.length ≤ N := by
  have := F.tot
  unfold Ch.rest
  simp
  omega
end Go.Proofs.Ytoiokmfdmpifiaa

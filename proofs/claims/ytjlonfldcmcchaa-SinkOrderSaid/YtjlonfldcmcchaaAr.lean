import Derived.Test.YtjlonfldcmcchaaOa
import Derived.Test.YtjlonfldcmcchaaProg
import Derived.Test.YtjlonfldcmcchaaLs
import Derived.Outline
import Derived.StillTailTactics
import Derived.Deep.DeepCutAuto
import Derived.Deep.CutBlock
import Derived.Deep.LoopGhost
import Derived.Deep.QuietTactic
import Derived.BigQuiet
import Derived.Deep.RegionHeld3
import Derived.Deep.RegionLaw
set_option linter.unusedVariables false
set_option linter.unusedSimpArgs false
namespace Go.Proofs.Ytjlonfldcmcchaa
open Go.RowKit
theorem u8_at {x : Int} (h : (Lit.int .u8 x).wf = true) : 0 ≤ x ∧ x ≤ 255 := by
  simp [Lit.wf] at h
  exact h
/-- An array of three slices at block b, and what they hold. -/
def Arr3 (b : Nat) (t : TypeId) (S : Nat → List Rec) : HP := Ex fun f : Nat → Value => Star (Blk b (.cells #[f 0, f 1, f 2] t (0, 0))) (Star (Ls ERec 39 (f 0) (S 0)) (Star (Ls ERec 39 (f 1) (S 1)) (Ls ERec 39 (f 2) (S 2))))
section
variable {w0 w : World} {R : List HP}
theorem Arr3.mk_ {b : Nat} {t : TypeId} {S : Nat → List Rec} (f : Nat → Value) (H : Hs w0 w (Blk b (.cells #[f 0, f 1, f 2] t (0, 0)) :: Ls ERec 39 (f 0) (S 0) :: Ls ERec 39 (f 1) (S 1) :: Ls ERec 39 (f 2) (S 2) :: R)) : Hs w0 w (Arr3 b t S :: R) := by
  have H : Hs w0 w (Star _ (Star _ (Star _ _)) :: R) := H.at3.at3.join.at2.join.at1.join
  exact H.mono fun h hh => ⟨f, hh⟩
theorem Arr3.focus {b : Nat} {t : TypeId} {S : Nat → List Rec} (H : Hs w0 w (Arr3 b t S :: R)) (p : Nat) (hp : p < 3) :
    ∃ (A : Option Addr) (c : Nat) (cs : Array Value) (Q : HP), cs[p]? = some (.slice A (S p).length c) ∧ Hs w0 w (Blk b (.cells cs t (0, 0)) :: Ls ERec 39 (.slice A (S p).length c) (S p) :: Q :: R) ∧
      (∀ (w0 w : World) (R : List HP), Hs w0 w (Blk b (.cells cs t (0, 0)) :: Ls ERec 39 (.slice A (S p).length c) (S p) :: Q :: R) → Hs w0 w (Arr3 b t S :: R)) ∧
      ∀ (v' : Value) (L' : List Rec) (w0 w : World) (R : List HP), Hs w0 w (Blk b (.cells (cs.setIfInBounds p v') t (0, 0)) :: Ls ERec 39 v' L' :: Q :: R) → Hs w0 w (Arr3 b t (set3 S p L') :: R) := by
  obtain ⟨f, H⟩ := H.ex
  have H := H.part.at1.part.at1.part
  rcases (show p = 0 ∨ p = 1 ∨ p = 2 by omega) with rfl | rfl | rfl
  · obtain ⟨A, c, hf⟩ := H.at2.ls_form
    refine ⟨A, c, #[f 0, f 1, f 2], Star (Ls ERec 39 (f 1) (S 1)) (Ls ERec 39 (f 2) (S 2)), by rw [← hf]; rfl, ?_, fun w0 w R H => ?_, fun v' L' w0 w R H => ?_⟩
    · rw [← hf]; exact H.join.at1.at2
    · rw [← hf] at H; exact Arr3.mk_ f H.at2.part.at3.at3
    · exact Arr3.mk_ (set3 f 0 v') (H.at2.part.at3.at3)
  · obtain ⟨A, c, hf⟩ := H.ls_form
    refine ⟨A, c, #[f 0, f 1, f 2], Star (Ls ERec 39 (f 0) (S 0)) (Ls ERec 39 (f 2) (S 2)), by rw [← hf]; rfl, ?_, fun w0 w R H => ?_, fun v' L' w0 w R H => ?_⟩
    · rw [← hf]; exact H.at1.at2.join.at1.at2
    · rw [← hf] at H; exact Arr3.mk_ f H.at2.part.at1.at3.at2.at3
    · exact Arr3.mk_ (set3 f 1 v') (H.at2.part.at1.at3.at2.at3)
  · obtain ⟨A, c, hf⟩ := H.at1.ls_form
    refine ⟨A, c, #[f 0, f 1, f 2], Star (Ls ERec 39 (f 0) (S 0)) (Ls ERec 39 (f 1) (S 1)), by rw [← hf]; rfl, ?_, fun w0 w R H => ?_, fun v' L' w0 w R H => ?_⟩
    · rw [← hf]; exact H.at2.join.at1.at2
    · rw [← hf] at H; exact Arr3.mk_ f H.at2.part.at3.at2.at2.at3
    · exact Arr3.mk_ (set3 f 2 v') (H.at2.part.at3.at2.at2.at3)
def Ds (b : Nat) (t : TypeId) (D : Nat → Nat) : HP := Blk b (.cells #[.int .i64 (D 0), .int .i64 (D 1), .int .i64 (D 2)] t (0, 0))
theorem Ds.cell {b : Nat} {t : TypeId} {D : Nat → Nat} (H : Hs w0 w (Ds b t D :: R)) (p : Nat) (hp : p < 3) : w.cell? ⟨b, p, none⟩ = some (.int .i64 (D p)) := by
  unfold Ds at H
  rcases (show p = 0 ∨ p = 1 ∨ p = 2 by omega) with rfl | rfl | rfl
  · exact H.cellOf 0 rfl
  · exact H.cellOf 1 rfl
  · exact H.cellOf 2 rfl
theorem Ds.frozen {b : Nat} {t : TypeId} {D : Nat → Nat} (H : Hs w0 w (Ds b t D :: R)) (p : Nat) : w.frozen? ⟨b, p, none⟩ = false := by
  unfold Ds at H
  exact H.frozenOf p
theorem Ds.set {b : Nat} {t : TypeId} {D : Nat → Nat} (H : Hs w0 w (Ds b t D :: R)) (p : Nat) (hp : p < 3) (x : Nat) : Hs w0 (w.setCell ⟨b, p, none⟩ (.int .i64 x)) (Ds b t (set3 D p x) :: R) := by
  unfold Ds at H ⊢
  have h := H.setCell (i := p) (.int .i64 x)
  rcases (show p = 0 ∨ p = 1 ∨ p = 2 by omega) with rfl | rfl | rfl
  · exact h
  · exact h
  · exact h
end
end Go.Proofs.Ytjlonfldcmcchaa

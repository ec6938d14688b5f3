import Derived.Test.YtjlonfldcmcchaaRa
import Derived.Test.YtjlonfldcmcchaaRb
import Derived.Test.YtjlonfldcmcchaaProg
import Derived.Test.YtjlonfldcmcchaaLs
import Derived.Outline
import Derived.StillTailTactics
import Derived.Deep.DeepCutAuto
import Derived.Deep.CutBlock
import Derived.Deep.LoopGhost
import Derived.Deep.QuietTactic
import Derived.BigQuiet
import Derived.Deep.RegionHeld3
import Derived.Deep.RegionLaw
set_option linter.unusedVariables false
set_option linter.unusedSimpArgs false
namespace Go.Proofs.Ytjlonfldcmcchaa
open Go.RowKit
theorem Rf.Ok.new : (⟨[], []⟩ : Rf).Ok 0 0 := ⟨by simp, by simp, by simp⟩
theorem Rf.Ok.more {r : Rf} {B C B' C' : Nat} (h : r.Ok B C) (hb : B ≤ B') (hc : C ≤ C') : r.Ok B' C' := ⟨Nat.le_trans h.len hb, Nat.le_trans h.flat hb, Nat.le_trans h.out hc⟩
theorem Rf.Ok.stage {r : Rf} {B C : Nat} (h : r.Ok B C) (p t : Int) (recs : List Rec) : (r.stage p t recs).Ok (B + 1 + recs.length) C := by
  have h1 := h.len
  have h2 := h.flat
  unfold Rf.stage
  split
  · exact h.more (by omega) (Nat.le_refl _)
  · refine ⟨?_, ?_, h.out⟩
    · simp; omega
    · simp only [List.flatMap_append, List.length_append, List.flatMap_cons, List.flatMap_nil, List.append_nil]; omega
theorem Rf.Ok.abort {r : Rf} {B C : Nat} (h : r.Ok B C) (p t : Int) : (r.abort p t).Ok B C := by
  have h1 := h.len
  have h2 := h.flat
  refine ⟨Nat.le_trans (List.length_filter_le ..) h1, ?_, h.out⟩
  refine Nat.le_trans ?_ h2
  unfold Rf.abort
  simp only
  generalize r.l = l
  induction l with
  | nil => simp
  | cons a l ih =>
    rw [List.filter_cons]
    split
    · simp only [List.flatMap_cons, List.length_append]; omega
    · simp only [List.flatMap_cons, List.length_append]; omega
theorem Rf.Ok.cm {r : Rf} {B C : Nat} (h : r.Ok B C) (p t : Int) : (r.cm p t).Ok B (C + B) := by
  have h1 := h.len
  have h2 := h.flat
  have h3 := h.out
  unfold Rf.cm
  split
  · exact h.more (Nat.le_refl _) (by omega)
  · split
    · refine ⟨by show (r.l.map _).length ≤ _; rw [List.length_map]; exact h1, ?_, ?_⟩
      · show ((r.l.map _).flatMap _).length ≤ _
        refine Nat.le_trans (Nat.le_of_eq ?_) h2
        congr 1
        generalize r.l = l
        induction l with
        | nil => rfl
        | cons a l ih =>
          rw [List.map_cons, List.flatMap_cons, List.flatMap_cons, ih]
          congr 1
          split <;> rfl
      · show (r.out ++ _).length ≤ _
        rw [List.length_append]
        have h4 : ∀ l : List RT, ((l.filter (Rf.hits p t)).flatMap (·.2.2.1)).length ≤ (l.flatMap (·.2.2.1)).length := by
          intro l
          induction l with
          | nil => simp
          | cons a l ih =>
            rw [List.filter_cons]
            split
            · simp only [List.flatMap_cons, List.length_append]; omega
            · simp only [List.flatMap_cons, List.length_append]; omega
        have h5 := h4 r.l
        omega
    · exact h.more (Nat.le_refl _) (by omega)
theorem Same.new : Same ⟨fun _ => ⟨[], 0⟩, []⟩ ⟨[], []⟩ := ⟨rfl, fun p => rfl, fun p => List.Pairwise.nil⟩
end Go.Proofs.Ytjlonfldcmcchaa

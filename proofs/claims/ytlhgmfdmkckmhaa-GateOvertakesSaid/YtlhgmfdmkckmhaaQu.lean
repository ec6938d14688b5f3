import Derived.Test.YtlhgmfdmkckmhaaRw
import Derived.Test.YtlhgmfdmkckmhaaKn
import Derived.Test.YtlhgmfdmkckmhaaProg
import Derived.Test.YtlhgmfdmkckmhaaLs
import Derived.Outline
import Derived.StillTailTactics
import Derived.Deep.DeepCutAuto
import Derived.Deep.CutBlock
import Derived.Deep.LoopGhost
import Derived.Deep.QuietTactic
import Derived.BigQuiet
import Derived.Deep.RegionHeld3
import Derived.Deep.RegionLaw
set_option linter.unusedVariables false
set_option linter.unusedSimpArgs false
namespace Go.Proofs.Ytlhgmfdmkckmhaa
open Go.RowKit
/-! ### queues: rows of frames -/
theorem infoF : (Try.prog.info? 31).map (fun i => (i.zero, i.size, i.bytes)) = some (some (.agg #[.int .i64 0, .int .i64 0, .int .i64 0, .int .i64 0, .int .i64 0, .int .u64 0, .bool false]), 7, 56) := by kernel_rfl
theorem infoFs : (Try.prog.info? 26).map (fun i => (i.zero, i.size, i.bytes)) = some (some (.slice none 0 0), 1, 24) := by kernel_rfl
section
variable {α β : Type}
theorem q_set {zs : List (Z β)} {D : List α} {f : α → List β} {c : Nat} {z' : Z β} {d' : α} (h : zs.map (·.2) = D.map f) (hz : z'.2 = f d') : (zs.set c z').map (·.2) = (D.set c d').map f := by
  rw [List.map_set, List.map_set, h, hz]
theorem q_get {zs : List (Z β)} {D : List α} {f : α → List β} {c : Nat} {z : Z β} {d : α} (h : zs.map (·.2) = D.map f) (hz : zs[c]? = some z) (hd : D[c]? = some d) : z.2 = f d := by
  have h1 : (zs.map (·.2))[c]? = some z.2 := by rw [List.getElem?_map, hz]; rfl
  rw [h, List.getElem?_map, hd] at h1
  simpa using h1.symm
theorem q_ex {zs : List (Z β)} {D : List α} {f : α → List β} (h : zs.map (·.2) = D.map f) {c : Nat} (hc : c < D.length) : ∃ z d, zs[c]? = some z ∧ D[c]? = some d := by
  have hl := congrArg List.length h
  rw [List.length_map, List.length_map] at hl
  exact ⟨_, _, List.getElem?_eq_getElem (by omega), List.getElem?_eq_getElem hc⟩
theorem q_cell {w : World} {gq N : Nat} {zs : List (Z β)} {c : Nat} {z : Z β} (H : RdL Enc.slc w (.slice (some ⟨gq, 0, none⟩) N N) (zs.map (·.1))) (hz : zs[c]? = some z) : w.cell? ⟨gq, c, none⟩ = some (.slice z.1.1 z.1.2.1 z.1.2.2) := by
  have := H.cell (i := c) (x := z.1) (by rw [List.getElem?_map, hz]; rfl) 0 rfl
  simpa [Enc.slc] using this
end
/-- A frame's cells, at the front of a row. -/
theorem front_cells {w : World} {g off n c : Nat} {f : Fr} {q : List Fr} (H : RdL EFr w (.slice (some ⟨g, off, none⟩) n c) (f :: q)) :
    w.cell? ⟨g, off, none⟩ = some (.int .i64 f.1) ∧ w.cell? ⟨g, off + 1, none⟩ = some (.int .i64 f.2.1.1) ∧ w.cell? ⟨g, off + 2, none⟩ = some (.int .i64 f.2.1.2.1) ∧ w.cell? ⟨g, off + 3, none⟩ = some (.int .i64 f.2.1.2.2) ∧ w.cell? ⟨g, off + 4, none⟩ = some (.int .i64 f.2.2.1) ∧ w.cell? ⟨g, off + 5, none⟩ = some (.int .u64 f.2.2.2.1) ∧ w.cell? ⟨g, off + 6, none⟩ = some (.bool f.2.2.2.2) := by
  have h : ∀ j u, (EFr.enc f)[j]? = some u → w.cell? ⟨g, off + j, none⟩ = some u := fun j u hu => by
    have := H.cell (i := 0) rfl j hu
    rwa [Nat.zero_mul, Nat.zero_add] at this
  exact ⟨h 0 _ rfl, h 1 _ rfl, h 2 _ rfl, h 3 _ rfl, h 4 _ rfl, h 5 _ rfl, h 6 _ rfl⟩
end Go.Proofs.Ytlhgmfdmkckmhaa

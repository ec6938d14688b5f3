import Derived.Test.YtbifajiigpalhaaNe
import Derived.Test.YtbifajiigpalhaaOp
import Derived.Test.YtbifajiigpalhaaOw
import Derived.Test.YtbifajiigpalhaaProg
import Derived.Test.YtbifajiigpalhaaLs
import Derived.Outline
import Derived.StillTailTactics
import Derived.Deep.DeepCutAuto
import Derived.Deep.CutBlock
import Derived.Deep.LoopGhost
import Derived.Deep.QuietTactic
import Derived.BigQuiet
import Derived.Deep.RegionHeld3
import Derived.Deep.RegionLaw
set_option linter.unusedVariables false
set_option linter.unusedSimpArgs false
namespace Go.Proofs.Ytbifajiigpalhaa
open Go.RowKit
section
variable {W : World}
theorem opnR_mono {P : Program} {α : Type} {e : TypeId} {E : Enc α} {ok ok2 : α → Prop} (h : OpnR P W e E ok) (h2 : ∀ a, ok a → ok2 a) : OpnR P W e E ok2 := fun H enc base spare held fuel cs x hx hw => by
  obtain ⟨a, ha, hok⟩ := h H enc base spare held fuel cs x hx hw
  exact ⟨a, ha, h2 a hok⟩
theorem open_expr : OpnR Try.prog W 50 EEx (ExpR W) := OpnR.ofN (opn_expr 50 48 3 2 _ _ _ Try.underlying50 (by kernel_rfl) ⟨rfl, Try.underlying3, by kernel_rfl⟩ ⟨rfl, Try.underlying2, by kernel_rfl⟩ ⟨rfl, Try.underlying48, by kernel_rfl⟩)
theorem open_node : OpnR Try.prog W 54 EN (fun r => (∃ xs, RdL (Enc.num .i64) W (.slice r.2.1.1 r.2.1.2.1 r.2.1.2.2) xs) ∧ ExpR W r.2.2.2.1) :=
  opnR_mono (opnR_struct (fs := _) Try.underlying54 (by kernel_rfl)
    (opnFsR_cons rfl (by kernel_rfl) (OpnR.of (opn_int Try.underlying3)) (opnFsR_cons rfl (by kernel_rfl) (opnR_slc Try.underlying34 (by kernel_rfl) (by decide) (OpnR.of (opn_int Try.underlying3)))
      (opnFsR_cons rfl (by kernel_rfl) (OpnR.of (opn_int Try.underlying3)) (opnFsR_cons rfl (by kernel_rfl) open_expr (opnFsR_cons rfl (by kernel_rfl) (OpnR.of (opn_int Try.underlying3))
        (opnFsR_one rfl (by kernel_rfl) (opnR_struct Try.underlying52 (by kernel_rfl) (opnFsR_cons rfl (by kernel_rfl) (OpnR.of (opn_int Try.underlying3)) (opnFsR_cons rfl (by kernel_rfl) (OpnR.of (opn_int Try.underlying2)) (opnFsR_one rfl (by kernel_rfl) (OpnR.of (opn_int Try.underlying2)))))))))))))
    (fun a h => ⟨h.2.1.2.imp fun xs hx => hx.1, h.2.2.2.1⟩)
theorem pick_all {α β : Type} {Q : α → β → Prop} : ∀ (l : List α), (∀ x ∈ l, ∃ y, Q x y) → ∃ zs : List (α × β), zs.map (·.1) = l ∧ ∀ z ∈ zs, Q z.1 z.2
  | [], _ => ⟨[], rfl, fun z hz => by cases hz⟩
  | x :: l, h => by
    obtain ⟨y, hy⟩ := h x (by simp)
    obtain ⟨zs, hz, hq⟩ := pick_all l fun x hx => h x (by simp [hx])
    refine ⟨(x, y) :: zs, by rw [List.map_cons, hz], fun z hz => ?_⟩
    rcases List.mem_cons.1 hz with rfl | hz
    · exact hy
    · exact hq z hz
theorem open_job : OpnR Try.prog W 24 Enc.slc (fun s => ∃ zs, JobX W (.slice s.1 s.2.1 s.2.2) zs) :=
  opnR_mono (opnR_struct Try.underlying24 (by kernel_rfl) (opnFsR_one rfl (by kernel_rfl) (opnR_slc Try.underlying22 (by kernel_rfl) (by decide) open_node)))
    (fun s h => by
      obtain ⟨_, xs, hr, hall⟩ := h
      obtain ⟨zs, rfl, hq⟩ := pick_all (Q := fun r ins => RdL (Enc.num .i64) W (.slice r.2.1.1 r.2.1.2.1 r.2.1.2.2) ins ∧ ExpR W r.2.2.2.1) xs fun x hx => by
        obtain ⟨⟨ins, hi⟩, he⟩ := hall x hx
        exact ⟨ins, hi, he⟩
      exact ⟨zs, ⟨hr, fun z hz => (hq z hz).1⟩, fun z hz => (hq z hz).2⟩)
end
end Go.Proofs.Ytbifajiigpalhaa

import Derived.Test.YtjdkpogkhecijaaUa
import Derived.Test.YtjdkpogkhecijaaOp
import Derived.Test.YtjdkpogkhecijaaOw
import Derived.Test.YtjdkpogkhecijaaProg
import Derived.Test.YtjdkpogkhecijaaLs
import Derived.Outline
import Derived.StillTailTactics
import Derived.Deep.DeepCutAuto
import Derived.Deep.CutBlock
import Derived.Deep.LoopGhost
import Derived.Deep.QuietTactic
import Derived.BigQuiet
import Derived.Deep.RegionHeld3
import Derived.Deep.RegionLaw
set_option linter.unusedVariables false
set_option linter.unusedSimpArgs false
namespace Go.Proofs.Ytjdkpogkhecijaa
open Go.RowKit
section
variable {W : World}
theorem opnR_mono {P : Program} {α : Type} {e : TypeId} {E : Enc α} {ok ok2 : α → Prop} (h : OpnR P W e E ok) (h2 : ∀ a, ok a → ok2 a) : OpnR P W e E ok2 := fun H enc base spare held fuel cs x hx hw => by
  obtain ⟨a, ha, hok⟩ := h H enc base spare held fuel cs x hx hw
  exact ⟨a, ha, h2 a hok⟩
theorem opnR_str {P : Program} {e : TypeId} (hu : P.underlying e = some .string) : OpnR P W e Enc.str (fun s => s.size ≤ 140737488351232) := fun H enc base spare held fuel cs x h hw => by
  obtain ⟨s, rfl, hx, hs⟩ := DataW.trod_string hu h
  refine ⟨s, rfl, ?_⟩
  have h2 := hw s.data.toList.length (by subst hx; simp [DataW.weights])
  rw [Array.length_toList] at h2
  exact h2
abbrev EM : Enc (Int × Int × Slc) := (Enc.num .u64).pair ((Enc.num .u64).pair Enc.slc)
theorem u64_of {x : Int} (h : (Lit.int .u64 x).wf = true) : U64 x := by
  simp [Lit.wf, IntKind.min, IntKind.max, IntKind.signed, IntKind.bits] at h
  show 0 ≤ x ∧ x < 18446744073709551616
  omega
theorem open_man : OpnR Try.prog W 62 EM (fun r => U64 r.1 ∧ U64 r.2.1 ∧ ∃ l, RdL Enc.str W (.slice r.2.2.1 r.2.2.2.1 r.2.2.2.2) l ∧ ∀ x ∈ l, x.size ≤ 140737488351232) :=
  opnR_mono (opnR_struct (fs := _) Try.underlying62 (by kernel_rfl)
    (opnFsR_cons rfl (by kernel_rfl) (OpnR.of (opn_int Try.underlying35)) (opnFsR_cons rfl (by kernel_rfl) (OpnR.of (opn_int Try.underlying35))
      (opnFsR_one rfl (by kernel_rfl) (opnR_slc Try.underlying60 (by kernel_rfl) (by decide) (opnR_str Try.underlying9))))))
    (fun a h => ⟨u64_of h.1, u64_of h.2.1, h.2.2.2.imp fun l hl => ⟨hl.1, hl.2⟩⟩)
end
end Go.Proofs.Ytjdkpogkhecijaa

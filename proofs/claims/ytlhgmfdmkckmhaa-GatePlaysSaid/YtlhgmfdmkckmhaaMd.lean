import Derived.Test.YtlhgmfdmkckmhaaOw
import Derived.Test.YtlhgmfdmkckmhaaSy
import Derived.Test.YtlhgmfdmkckmhaaProg
import Derived.Test.YtlhgmfdmkckmhaaLs
import Derived.Outline
import Derived.StillTailTactics
import Derived.Deep.DeepCutAuto
import Derived.Deep.CutBlock
import Derived.Deep.LoopGhost
import Derived.Deep.QuietTactic
import Derived.BigQuiet
import Derived.Deep.RegionHeld3
import Derived.Deep.RegionLaw
set_option linter.unusedVariables false
set_option linter.unusedSimpArgs false
namespace Go.Proofs.Ytlhgmfdmkckmhaa
open Go.RowKit
theorem mixed : Try.prog.follows .mixedOrders = true := by kernel_rfl
/-- A frame: kind, record, mark, number, over. -/
abbrev Fr := Int × (Int × Int × Int) × Int × Int × Bool
abbrev ERec : Enc (Int × Int × Int) := (Enc.num .i64).pair ((Enc.num .i64).pair (Enc.num .i64))
abbrev EFr : Enc Fr := (Enc.num .i64).pair (ERec.pair ((Enc.num .i64).pair ((Enc.num .u64).pair Enc.flag)))
abbrev EOut : Enc (Int × Fr) := (Enc.num .i64).pair EFr
structure Gt where (marks : List Int) (came blk : List Bool) (under last : Int) (over : Bool) (cap : List (Int × Fr))
section
variable {w0 w : World} {R : List HP}
/-- A gate at block p. -/
def GateP (p : Nat) (s : Gt) : HP := Ex fun vm => Ex fun vc => Ex fun vb => Ex fun vk => Star (Blk p (.cells #[vm, vc, vb, .int .u64 s.under, .int .u64 s.last, .bool s.over, vk] 68 (0, 0)))
  (Star (Ls (Enc.num .i64) 2 vm s.marks) (Star (Ls Enc.flag 4 vc s.came) (Star (Ls Enc.flag 4 vb s.blk) (Ls EOut 46 vk s.cap))))
theorem GateP.open_ {p : Nat} {s : Gt} (H : Hs w0 w (GateP p s :: R)) : ∃ Am cm Ac cc Ab cb Ak ck, Hs w0 w (Blk p (.cells #[.slice Am s.marks.length cm, .slice Ac s.came.length cc, .slice Ab s.blk.length cb, .int .u64 s.under, .int .u64 s.last, .bool s.over, .slice Ak s.cap.length ck] 68 (0, 0)) ::
    Ls (Enc.num .i64) 2 (.slice Am s.marks.length cm) s.marks :: Ls Enc.flag 4 (.slice Ac s.came.length cc) s.came :: Ls Enc.flag 4 (.slice Ab s.blk.length cb) s.blk :: Ls EOut 46 (.slice Ak s.cap.length ck) s.cap :: R) := by
  obtain ⟨vm, H⟩ := H.ex
  obtain ⟨vc, H⟩ := H.ex
  obtain ⟨vb, H⟩ := H.ex
  obtain ⟨vk, H⟩ := H.ex
  have H := H.part.at1.part.at1.part.at1.part
  obtain ⟨Ab, cb, rfl⟩ := H.ls_form
  obtain ⟨Ak, ck, rfl⟩ := H.at1.ls_form
  obtain ⟨Ac, cc, rfl⟩ := H.at2.ls_form
  obtain ⟨Am, cm, rfl⟩ := H.at3.ls_form
  exact ⟨Am, cm, Ac, cc, Ab, cb, Ak, ck, H.at1.at1.at2.at3.at4⟩
theorem GateP.mk_ {p : Nat} {s : Gt} {vm vc vb vk : Value} (H : Hs w0 w (Blk p (.cells #[vm, vc, vb, .int .u64 s.under, .int .u64 s.last, .bool s.over, vk] 68 (0, 0)) ::
    Ls (Enc.num .i64) 2 vm s.marks :: Ls Enc.flag 4 vc s.came :: Ls Enc.flag 4 vb s.blk :: Ls EOut 46 vk s.cap :: R)) : Hs w0 w (GateP p s :: R) := by
  have H : Hs w0 w (Star _ (Star _ (Star _ (Star _ _))) :: R) := H.at4.at4.join.at3.join.at2.join.at1.join
  exact H.mono fun h hh => ⟨vm, vc, vb, vk, hh⟩
end
end Go.Proofs.Ytlhgmfdmkckmhaa

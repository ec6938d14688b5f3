import Derived.Test.YtoiokmfdmpifiaaKn
import Derived.Test.YtoiokmfdmpifiaaDr
import Derived.Test.YtoiokmfdmpifiaaPl
import Derived.Test.YtoiokmfdmpifiaaProg
import Derived.Test.YtoiokmfdmpifiaaLs
import Derived.Outline
import Derived.StillTailTactics
import Derived.Deep.DeepCutAuto
import Derived.Deep.CutBlock
import Derived.Deep.LoopGhost
import Derived.Deep.QuietTactic
import Derived.BigQuiet
import Derived.Deep.RegionHeld3
import Derived.Deep.RegionLaw
set_option linter.unusedVariables false
set_option linter.unusedSimpArgs false
namespace Go.Proofs.Ytoiokmfdmpifiaa
open Go.RowKit
theorem below_of {w w' : World} {R : List HP} (H : Hs w w' (Old w :: R)) : Below w.heap.size w w' := H.under_old
theorem chan_sends18 (p : Nat) (s : Ch (Int)) (w w0 : World) (R : List HP) (H : Hs w0 w (ChanI p s :: R)) (hs : s.Ok) :
    Calls Try.prog 18 #[.pointer (some ⟨p, 0, none⟩)] w fun e w' => e = .returned (.bool s.sends) ∧ Hs w0 w' (ChanI p s.send :: R) := by
  unfold Ch.sends Ch.send
  cases hl : s.back with
  | nil => exact chan_send_no18 p s w w0 R H hs (.inl hl)
  | cons x r =>
    by_cases hc : 0 < s.cred
    · simp only [if_pos hc]
      refine (chan_send18 p s x r w w0 R H hs hl hc).mono ?_
      rintro e w' ⟨rfl, h⟩
      exact ⟨by simp [hc], h⟩
    · simp only [if_neg hc]
      refine (chan_send_no18 p s w w0 R H hs (.inr (by omega))).mono ?_
      rintro e w' ⟨rfl, h⟩
      exact ⟨by simp [hc], h⟩
end Go.Proofs.Ytoiokmfdmpifiaa

import Derived.Test.YtoiokmfdmpifiaaCc
import Derived.Test.YtoiokmfdmpifiaaProg
import Derived.Test.YtoiokmfdmpifiaaLs
import Derived.Outline
import Derived.StillTailTactics
import Derived.Deep.DeepCutAuto
import Derived.Deep.CutBlock
import Derived.Deep.LoopGhost
import Derived.Deep.QuietTactic
import Derived.BigQuiet
import Derived.Deep.RegionHeld3
import Derived.Deep.RegionLaw
set_option linter.unusedVariables false
set_option linter.unusedSimpArgs false
namespace Go.Proofs.Ytoiokmfdmpifiaa
open Go.RowKit
/-- leathelp.Place. -/
theorem place9 (n m : Int) (w : World) (hm : 0 < m) (hm2 : m ≤ 1000000) : Calls Try.prog 9 #[.int .i64 n, .int .i64 m] w fun e w' => e = .returned (.int .i64 (n % m)) ∧ w = w' := by
  have h1 := Int.tmod_lt_of_pos n hm
  have h2 := Int.lt_tmod_of_pos n hm
  have hz : m ≠ 0 := by omega
  have hz0 : (m == 0) = false := by rw [beq_eq_false_iff_ne]; exact hz
  rcases Int.lt_or_le (n.tmod m) 0 with h | h
  · have e1 := Lib.hid (tmod_up n m hm h)
    go_enter Try.func9, Try.ntmps9
    go_wp2_with fail
    go_ret
    rw [← e1.out]
    exact ⟨rfl, rfl⟩
  · have e1 := Lib.hid (tmod_in n m hm h)
    go_enter Try.func9, Try.ntmps9
    go_wp2_with fail
    go_ret
    rw [← e1.out]
    exact ⟨rfl, rfl⟩
set_option maxRecDepth 100000 in
theorem known8 (w w0 : World) (R : List HP) (H : Hs w0 w R) : Calls Try.prog 8 #[] w fun e w' => e = .returned (.bool true) ∧ Hs w0 w' R := by
  go_enter Try.func8, Try.ntmps8
  go_wp2_with fail
  refine (chan_new16 1 1 _ _ _ H).mono ?_
  rintro e w1 ⟨p, rfl, H⟩
  replace H : Hs w0 w1 (ChanI p ⟨1, [], 1, [], [], 1, 1, 0⟩ :: R) := H
  go_wp2_with fail
  refine (chan_offer17 p _ 5 _ _ _ H ⟨by decide, by decide, by decide, by decide, by decide⟩).mono ?_
  rintro e w1 ⟨rfl, H⟩
  replace H : Hs w0 w1 (ChanI p ⟨1, [5], 1, [], [], 1, 1, 0⟩ :: R) := H
  go_wp2_with fail
  refine (chan_offer17 p _ 6 _ _ _ H ⟨by decide, by decide, by decide, by decide, by decide⟩).mono ?_
  rintro e w1 ⟨rfl, H⟩
  replace H : Hs w0 w1 (ChanI p ⟨1, [5, 6], 1, [], [], 1, 1, 0⟩ :: R) := H
  go_wp2_with fail
  refine (chan_send18 p _ 5 [6] _ _ _ H ⟨by decide, by decide, by decide, by decide, by decide⟩ rfl (by decide)).mono ?_
  rintro e w1 ⟨rfl, H⟩
  replace H : Hs w0 w1 (ChanI p ⟨1, [6], 1, [(1, 1, 5)], [], 2, 1, 0⟩ :: R) := H
  go_wp2_with fail
  refine (chan_send_no18 p _ _ _ _ H ⟨by decide, by decide, by decide, by decide, by decide⟩ (.inr (by decide))).mono ?_
  rintro e w1 ⟨rfl, H⟩
  go_wp2_with fail
  refine (chan_deliver19 p _ _ _ _ H ⟨by decide, by decide, by decide, by decide, by decide⟩).mono ?_
  rintro e w1 ⟨rfl, H⟩
  replace H : Hs w0 w1 (ChanI p ⟨1, [6], 1, [], [5], 2, 2, 1⟩ :: R) := H
  rw [show Ch.dlv (⟨1, [6], 1, [(1, 1, 5)], [], 2, 1, 0⟩ : Ch Int) = 0 from by decide]
  go_wp2_with fail
  refine (chan_take20 p _ _ _ _ H ⟨by decide, by decide, by decide, by decide, by decide⟩).mono ?_
  rintro e w1 ⟨rfl, H⟩
  replace H : Hs w0 w1 (ChanI p ⟨1, [6], 1, [], [], 2, 2, 1⟩ :: R) := H
  simp only [List.headD_cons, List.isEmpty_cons, Bool.not_false]
  go_wp2_with fail
  refine (chan_send18 p _ 6 [] _ _ _ H ⟨by decide, by decide, by decide, by decide, by decide⟩ rfl (by decide)).mono ?_
  rintro e w1 ⟨rfl, H⟩
  replace H : Hs w0 w1 (ChanI p ⟨1, [], 1, [(1, 2, 6)], [], 3, 2, 1⟩ :: R) := H
  go_wp2_with fail
  refine (chan_arrives22 p _ 2 2 0 _ _ _ H ⟨by decide, by decide, by decide, by decide, by decide⟩).mono ?_
  rintro e w1 ⟨rfl, H⟩
  replace H : Hs w0 w1 (ChanI p ⟨1, [], 1, [(1, 2, 6)], [], 3, 2, 1⟩ :: R) := H
  rw [show Ch.arr (⟨1, [], 1, [(1, 2, 6)], [], 3, 2, 1⟩ : Ch Int) 2 2 = 62 from by decide]
  go_wp2_with fail
  refine (chan_arrives22 p _ 1 9 0 _ _ _ H ⟨by decide, by decide, by decide, by decide, by decide⟩).mono ?_
  rintro e w1 ⟨rfl, H⟩
  replace H : Hs w0 w1 (ChanI p ⟨1, [], 1, [(1, 2, 6)], [], 3, 2, 1⟩ :: R) := H
  rw [show Ch.arr (⟨1, [], 1, [(1, 2, 6)], [], 3, 2, 1⟩ : Ch Int) 1 9 = 61 from by decide]
  go_wp2_with fail
  refine (chan_moving26 p _ _ _ _ H).mono ?_
  rintro e w1 ⟨rfl, rfl⟩
  go_wp2_with fail
  refine (chan_backlog25 p _ _ _ _ H).mono ?_
  rintro e w1 ⟨rfl, rfl⟩
  go_wp2_with fail
  refine (chan_most28 p _ _ _ _ H).mono ?_
  rintro e w1 ⟨rfl, rfl⟩
  go_wp2_with fail
  refine (chan_credits29 p _ _ _ _ H ⟨by decide, by decide, by decide, by decide, by decide⟩).mono ?_
  rintro e w1 ⟨rfl, m, rfl⟩
  rw [show Ch.cred (⟨1, [], 1, [(1, 2, 6)], [], 3, 2, 1⟩ : Ch Int) = 0 from by decide]
  go_wp2_with fail
  go_ret
  exact ⟨rfl, (H.drewN m).drop⟩
end Go.Proofs.Ytoiokmfdmpifiaa

import Derived.Test.YtoiokmfdmpifiaaCa
import Derived.Test.YtoiokmfdmpifiaaProg
import Derived.Test.YtoiokmfdmpifiaaLs
import Derived.Outline
import Derived.StillTailTactics
import Derived.Deep.DeepCutAuto
import Derived.Deep.CutBlock
import Derived.Deep.LoopGhost
import Derived.Deep.QuietTactic
import Derived.BigQuiet
import Derived.Deep.RegionHeld3
import Derived.Deep.RegionLaw
set_option linter.unusedVariables false
set_option linter.unusedSimpArgs false
namespace Go.Proofs.Ytoiokmfdmpifiaa
open Go.RowKit
theorem chan_send_no18 (p : Nat) (s : Ch (Int)) (w w0 : World) (R : List HP) (H : Hs w0 w (ChanI p s :: R)) (hs : s.Ok) (hn : s.back = [] ∨ s.cred ≤ 0) :
    Calls Try.prog 18 #[.pointer (some ⟨p, 0, none⟩)] w fun e w' => e = .returned (.bool false) ∧ Hs w0 w' (ChanI p s :: R) := by
  have HC := Lib.hid H
  obtain ⟨A, c, pm, pr, H⟩ := ChanI.open_ H
  have c1 : w.cell? ⟨p, 1, none⟩ = some (.slice A s.back.length c) := H.cellOf 1 rfl
  cases hl : s.back with
  | nil =>
    rw [hl] at c1
    simp only [List.length_nil] at c1
    clear hl H hn
    go_enter Try.func18, Try.ntmps18
    go_wp2_with fail
    go_ret
    exact ⟨rfl, HC.out⟩
  | cons b0 bs =>
    rw [hl] at c1
    simp only [List.length_cons] at c1
    have hc : s.cred ≤ 0 := by rcases hn with h | h; (· rw [hl] at h; cases h); exact h
    have hnz : ((bs.length : Int) + 1 == 0) = false := by rw [beq_eq_false_iff_ne]; omega
    clear hl H hn
    go_enter Try.func18, Try.ntmps18
    go_wp2_with fail
    refine (chan_credits29 p s _ _ _ HC.out hs).mono ?_
    rintro e w1 ⟨rfl, m, rfl⟩
    go_wp2_with fail
    go_ret
    exact ⟨rfl, HC.out.drewN m⟩
set_option maxRecDepth 100000 in
theorem chan_send18 (p : Nat) (s : Ch (Int)) (b0 : Int) (bs : List (Int)) (w w0 : World) (R : List HP) (H : Hs w0 w (ChanI p s :: R)) (hs : s.Ok) (hl : s.back = b0 :: bs) (hc : 0 < s.cred) :
    Calls Try.prog 18 #[.pointer (some ⟨p, 0, none⟩)] w fun e w' => e = .returned (.bool true) ∧ Hs w0 w' (ChanI p { s with back := bs, mov := s.mov ++ [(s.ep, s.out, b0)], out := IntKind.u64.wrap (s.out + 1) } :: R) := by
  have HC := Lib.hid H
  obtain ⟨A, c, pm, pr, H⟩ := ChanI.open_ H
  have hmb := hs.m
  have hbb := hs.b
  rw [hl] at H hbb
  simp only [List.length_cons] at H hbb
  have H0 := Lib.hid H
  have hnz : ((bs.length : Int) + 1 == 0) = false := by rw [beq_eq_false_iff_ne]; omega
  obtain ⟨g, off, rfl⟩ := H.at1.ls_rd.some_ (by simp)
  have c1 : w.cell? ⟨p, 1, none⟩ = some (.slice (some ⟨g, off, none⟩) (bs.length + 1) c) := H.cellOf 1 rfl
  have hcd : decide (s.cred ≤ 0) = false := by simp; omega
  clear H hl
  go_enter Try.func18, Try.ntmps18
  go_wp2_with fail
  refine (chan_credits29 p s _ _ _ HC.out hs).mono ?_
  rintro e w1 ⟨rfl, m, rfl⟩
  go_wp2_with fail
  replace H0 := H0.out.drewN m
  replace HC := HC.out.drewN m
  clear c1
  generalize w.drewN m = w1 at *
  have c1 : w1.cell? ⟨p, 1, none⟩ = some (.slice (some ⟨g, off, none⟩) (bs.length + 1) c) := H0.cellOf 1 rfl
  have c2 : w1.cell? ⟨p, 2, none⟩ = some (.pointer (some ⟨pm, 0, none⟩)) := H0.cellOf 2 rfl
  have c4 : w1.cell? ⟨p, 4, none⟩ = some (.int .u64 s.out) := H0.cellOf 4 rfl
  have cb : w1.cell? ⟨g, off, none⟩ = some (Value.int .i64 b0) := H0.at1.ls_rd.cell (i := 0) rfl 0 rfl
  go_still_tail 19, mixed
  still_call (still_same (chan_epoch23 p s _ w0 R HC.drew))
  repeat still_step
  still_call (still_same (chan_epoch23 p s _ w0 R HC.drew))
  repeat still_step
  refine wpStill_nil ?_
  change wpList _ _ _ _ _ w1.drew
  replace H0 := H0.drew
  clear c1 c2 c4 cb HC
  generalize w1.drew = w2 at *
  go_wp2_with (go_at_call 53; refine (link_send53 pm s.ep s.ep (s.ep, s.out, b0) s.mov _ w0 _ H0.at2 (by omega)).mono ?_)
  rintro e w3 rfl H1
  replace H1 := H1.at2.at2.at1
  have c1 := H1.at1.cellOf 1 rfl
  have c4 : w3.cell? ⟨p, 4, none⟩ = some (.int .u64 s.out) := H1.at1.cellOf 4 rfl
  have f4 := H1.at1.frozenOf 4
  have H2 := Lib.hid (H1.at1.setCell (i := 4) (.int .u64 (IntKind.u64.wrap (s.out + 1))))
  go_wp2_with (go_at_call 54; refine (delete54 _ (b0 :: bs) 0 1 _ w0 _ H2.out.at1 (by omega) (by omega) (by rw [List.length_cons]; omega) (by rw [List.length_cons]; omega)).mono ?_)
  rintro e w4 ⟨A4, cp4, mm, hm, rfl, H4⟩
  obtain rfl : mm = bs.length := by simp at hm; exact hm
  clear hm c4 f4 c1 H0 H1 H2
  replace H4 := H4.at1
  have c5 := H4.cellOf 1 rfl
  have f5 := H4.frozenOf 1
  go_wp2_with fail
  go_ret
  exact ⟨rfl, ChanI.mk_ (H4.setCell (i := 1) _)⟩
end Go.Proofs.Ytoiokmfdmpifiaa

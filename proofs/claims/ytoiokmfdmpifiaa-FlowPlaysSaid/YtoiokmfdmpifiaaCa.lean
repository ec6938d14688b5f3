import Derived.Test.YtoiokmfdmpifiaaCh
import Derived.Test.YtoiokmfdmpifiaaProg
import Derived.Test.YtoiokmfdmpifiaaLs
import Derived.Outline
import Derived.StillTailTactics
import Derived.Deep.DeepCutAuto
import Derived.Deep.CutBlock
import Derived.Deep.LoopGhost
import Derived.Deep.QuietTactic
import Derived.BigQuiet
import Derived.Deep.RegionHeld3
import Derived.Deep.RegionLaw
set_option linter.unusedVariables false
set_option linter.unusedSimpArgs false
namespace Go.Proofs.Ytoiokmfdmpifiaa
open Go.RowKit
/-- A channel at block p. -/
def ChanI (p : Nat) (s : Ch (Int)) : HP := Ex fun v => Ex fun pm => Ex fun pr => Star (Blk p (.cells #[.int .i64 s.cr, v, .pointer (some ⟨pm, 0, none⟩), .pointer (some ⟨pr, 0, none⟩), .int .u64 s.out, .int .u64 s.inn, .int .i64 s.gr] 82 (0, 0))) (Star (Ls (Enc.num .i64) 3 v s.back) (Star (LinkI pm s.ep s.mov) (RingI pr s.cr s.wait)))
theorem ChanI.open_ {p : Nat} {s : Ch (Int)} {w w0 : World} {R : List HP} (H : Hs w0 w (ChanI p s :: R)) :
    ∃ A c pm pr, Hs w0 w (Blk p (.cells #[.int .i64 s.cr, .slice A s.back.length c, .pointer (some ⟨pm, 0, none⟩), .pointer (some ⟨pr, 0, none⟩), .int .u64 s.out, .int .u64 s.inn, .int .i64 s.gr] 82 (0, 0)) :: Ls (Enc.num .i64) 3 (.slice A s.back.length c) s.back :: LinkI pm s.ep s.mov :: RingI pr s.cr s.wait :: R) := by
  obtain ⟨v, H⟩ := H.ex
  obtain ⟨pm, H⟩ := H.ex
  obtain ⟨pr, H⟩ := H.ex
  have H := H.part.at1.part.at1.part.at2
  obtain ⟨A, c, rfl⟩ := H.ls_form
  exact ⟨A, c, pm, pr, H.at3⟩
theorem ChanI.mk_ {p pm pr : Nat} {s : Ch (Int)} {v : Value} {w w0 : World} {R : List HP} (H : Hs w0 w (Blk p (.cells #[.int .i64 s.cr, v, .pointer (some ⟨pm, 0, none⟩), .pointer (some ⟨pr, 0, none⟩), .int .u64 s.out, .int .u64 s.inn, .int .i64 s.gr] 82 (0, 0)) :: Ls (Enc.num .i64) 3 v s.back :: LinkI pm s.ep s.mov :: RingI pr s.cr s.wait :: R)) : Hs w0 w (ChanI p s :: R) :=
  H.at3.at3.join.at2.join.at1.join.mono fun h hh => ⟨_, _, _, hh⟩
theorem chan_new16 (n ep : Int) (w w0 : World) (R : List HP) (H : Hs w0 w R) : Calls Try.prog 16 #[.int .i64 n, .int .u64 ep] w fun e w' => ∃ p, e = .returned (.pointer (some ⟨p, 0, none⟩)) ∧ Hs w0 w' (ChanI p (Ch.fresh n ep) :: R) := by
  rcases (show n < 1 ∨ (1 ≤ n ∧ n ≤ 64) ∨ 64 < n by omega) with h | ⟨h1, h2⟩ | h
  all_goals
    first
      | have hm : min (max n 1) 64 = 1 ∧ min (max 1 1) 65536 = (1 : Int) := by omega
      | have hm : min (max n 1) 64 = n ∧ min (max n 1) 65536 = n := by omega
      | have hm : min (max n 1) 64 = 64 ∧ min (max 64 1) 65536 = (64 : Int) := by omega
    replace hm := Lib.hid hm
    go_enter Try.func16, Try.ntmps16
    go_wp2_with (go_at_call 51; refine (link_new51 ep _ _ _ H).mono ?_)
    rintro e w1 ⟨pm, rfl, H1⟩
    go_wp2_with (go_at_call 52; refine (ring_new52 _ _ _ _ H1).mono ?_)
    rintro e w2 ⟨pr, rfl, H2⟩
    rw [hm.out.2] at H2
    go_wp2_with fail
    go_ret
    refine ⟨_, rfl, ChanI.mk_ (v := .slice none 0 0) (pm := pm) (pr := pr) ?_⟩
    unfold Ch.fresh
    rw [hm.out.1]
    exact (((H2.at1.ls_nil (Enc.num .i64) 3).alloc _))
theorem chan_epoch23 (p : Nat) (s : Ch (Int)) (w w0 : World) (R : List HP) (H : Hs w0 w (ChanI p s :: R)) :
    Calls Try.prog 23 #[.pointer (some ⟨p, 0, none⟩)] w fun e w' => e = .returned (.int .u64 s.ep) ∧ w = w' := by
  obtain ⟨A, c, pm, pr, H⟩ := ChanI.open_ H
  have c2 : w.cell? ⟨p, 2, none⟩ = some (.pointer (some ⟨pm, 0, none⟩)) := H.cellOf 2 rfl
  go_enter Try.func23, Try.ntmps23
  go_wp2_with fail
  refine (link_epoch60 pm s.ep s.mov _ _ _ H.at2).mono ?_
  rintro e w1 ⟨rfl, rfl⟩
  go_wp2_with fail
  go_ret
  exact ⟨rfl, rfl⟩
theorem chan_moving26 (p : Nat) (s : Ch (Int)) (w w0 : World) (R : List HP) (H : Hs w0 w (ChanI p s :: R)) :
    Calls Try.prog 26 #[.pointer (some ⟨p, 0, none⟩)] w fun e w' => e = .returned (.int .i64 s.mov.length) ∧ w = w' := by
  obtain ⟨A, c, pm, pr, H⟩ := ChanI.open_ H
  have c2 : w.cell? ⟨p, 2, none⟩ = some (.pointer (some ⟨pm, 0, none⟩)) := H.cellOf 2 rfl
  go_enter Try.func26, Try.ntmps26
  go_wp2_with fail
  refine (link_len63 pm s.ep s.mov _ _ _ H.at2).mono ?_
  rintro e w1 ⟨rfl, rfl⟩
  go_wp2_with fail
  go_ret
  exact ⟨rfl, rfl⟩
theorem chan_waiting27 (p : Nat) (s : Ch (Int)) (w w0 : World) (R : List HP) (H : Hs w0 w (ChanI p s :: R)) :
    Calls Try.prog 27 #[.pointer (some ⟨p, 0, none⟩)] w fun e w' => e = .returned (.int .i64 s.wait.length) ∧ w = w' := by
  obtain ⟨A, c, pm, pr, H⟩ := ChanI.open_ H
  have c3 : w.cell? ⟨p, 3, none⟩ = some (.pointer (some ⟨pr, 0, none⟩)) := H.cellOf 3 rfl
  go_enter Try.func27, Try.ntmps27
  go_wp2_with fail
  refine (ring_len64 pr s.cr s.wait _ _ _ H.at3).mono ?_
  rintro e w1 ⟨rfl, rfl⟩
  go_wp2_with fail
  go_ret
  exact ⟨rfl, rfl⟩
theorem chan_backlog25 (p : Nat) (s : Ch (Int)) (w w0 : World) (R : List HP) (H : Hs w0 w (ChanI p s :: R)) :
    Calls Try.prog 25 #[.pointer (some ⟨p, 0, none⟩)] w fun e w' => e = .returned (.int .i64 s.back.length) ∧ w = w' := by
  obtain ⟨A, c, pm, pr, H⟩ := ChanI.open_ H
  have c1 : w.cell? ⟨p, 1, none⟩ = some (.slice A s.back.length c) := H.cellOf 1 rfl
  go_enter Try.func25, Try.ntmps25
  go_wp2_with fail
  go_ret
  exact ⟨rfl, rfl⟩
theorem chan_credits29 (p : Nat) (s : Ch (Int)) (w w0 : World) (R : List HP) (H : Hs w0 w (ChanI p s :: R)) (hs : s.Ok) :
    Calls Try.prog 29 #[.pointer (some ⟨p, 0, none⟩)] w fun e w' => e = .returned (.int .i64 s.cred) ∧ ∃ m, w' = w.drewN m := by
  have HC := Lib.hid H
  obtain ⟨A, c, pm, pr, H⟩ := ChanI.open_ H
  have c0 : w.cell? ⟨p, 0, none⟩ = some (.int .i64 s.cr) := H.cellOf 0 rfl
  obtain ⟨h1, h2, h3, h4, h5⟩ := hs
  have e1 : IntKind.i64.wrap (s.cr - (s.mov.length : Int)) = s.cr - s.mov.length := IntWalk.i64_in _ (by omega)
  have e2 : IntKind.i64.wrap (s.cr - (s.mov.length : Int) - (s.wait.length : Int)) = s.cr - s.mov.length - s.wait.length := IntWalk.i64_in _ (by omega)
  clear H h1 h2 h3 h4 h5
  go_enter Try.func29, Try.ntmps29
  go_wp2_with fail
  go_quiet (first | (go_at_call 26; exact quiet_same (chan_moving26 p s _ _ _ (HC.out.drewN _))) | (go_at_call 27; exact quiet_same (chan_waiting27 p s _ _ _ (HC.out.drewN _))))
  go_wp2_with fail
  go_ret
  exact ⟨rfl, _, rfl⟩
theorem chan_offer17 (p : Nat) (s : Ch (Int)) (x : Int) (w w0 : World) (R : List HP) (H : Hs w0 w (ChanI p s :: R)) (hs : s.Ok) :
    Calls Try.prog 17 #[.pointer (some ⟨p, 0, none⟩), Value.int .i64 x] w fun e w' => e = .returned (.tuple #[]) ∧ Hs w0 w' (ChanI p (s.offer x) :: R) := by
  obtain ⟨A, c, pm, pr, H⟩ := ChanI.open_ H
  have c1 : w.cell? ⟨p, 1, none⟩ = some (.slice A s.back.length c) := H.cellOf 1 rfl
  have hb := hs.b
  go_enter Try.func17, Try.ntmps17
  go_wp2_with (at_builtin; refine wpList_append1L (E := Enc.num .i64) rfl (.tmp 8) (.tmp 10) 48 rfl 3 _ 1 8 Try.underlying48 info54 rfl (by decide) (by decide) rfl rfl rfl H.at1 x (by omega) ?_)
  intro A1 cp1 w1 H1
  replace H1 := H1.at1
  have hd0 := H1.cellOf 1 rfl
  have hd1 := H1.frozenOf 1
  clear c1
  go_wp2_with fail
  go_end0
  exact ⟨rfl, ChanI.mk_ (H1.setCell (i := 1) _)⟩
theorem chan_take20 (p : Nat) (s : Ch (Int)) (w w0 : World) (R : List HP) (H : Hs w0 w (ChanI p s :: R)) (hs : s.Ok) :
    Calls Try.prog 20 #[.pointer (some ⟨p, 0, none⟩)] w fun e w' => e = .returned (.tuple #[Value.int .i64 (s.wait.headD (0)), .bool (!s.wait.isEmpty)]) ∧ Hs w0 w' (ChanI p s.take :: R) := by
  obtain ⟨A, c, pm, pr, H⟩ := ChanI.open_ H
  have c3 : w.cell? ⟨p, 3, none⟩ = some (.pointer (some ⟨pr, 0, none⟩)) := H.cellOf 3 rfl
  have hb := hs.w
  go_enter Try.func20, Try.ntmps20
  go_wp2_with fail
  refine (ring_take56 pr s.cr s.wait _ _ _ H.at3 (by omega)).mono ?_
  rintro e w1 ⟨rfl, H1⟩
  go_wp2_with fail
  go_ret2
  exact ⟨by first | rfl | simp, ChanI.mk_ H1.at3.at3.at3⟩
end Go.Proofs.Ytoiokmfdmpifiaa

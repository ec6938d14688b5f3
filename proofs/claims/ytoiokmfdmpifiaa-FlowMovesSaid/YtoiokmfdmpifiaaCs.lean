import Derived.Test.YtoiokmfdmpifiaaCh
import Derived.Test.YtoiokmfdmpifiaaProg
import Derived.Test.YtoiokmfdmpifiaaLs
import Derived.Outline
import Derived.StillTailTactics
import Derived.Deep.DeepCutAuto
import Derived.Deep.CutBlock
import Derived.Deep.LoopGhost
import Derived.Deep.QuietTactic
import Derived.BigQuiet
import Derived.Deep.RegionHeld3
import Derived.Deep.RegionLaw
set_option linter.unusedVariables false
set_option linter.unusedSimpArgs false
namespace Go.Proofs.Ytoiokmfdmpifiaa
open Go.RowKit
/-- A channel at block p. -/
def ChanS (p : Nat) (s : Ch (ByteArray)) : HP := Ex fun v => Ex fun pm => Ex fun pr => Star (Blk p (.cells #[.int .i64 s.cr, v, .pointer (some ⟨pm, 0, none⟩), .pointer (some ⟨pr, 0, none⟩), .int .u64 s.out, .int .u64 s.inn, .int .i64 s.gr] 69 (0, 0))) (Star (Ls (Enc.str) 9 v s.back) (Star (LinkS pm s.ep s.mov) (RingS pr s.cr s.wait)))
theorem ChanS.open_ {p : Nat} {s : Ch (ByteArray)} {w w0 : World} {R : List HP} (H : Hs w0 w (ChanS p s :: R)) :
    ∃ A c pm pr, Hs w0 w (Blk p (.cells #[.int .i64 s.cr, .slice A s.back.length c, .pointer (some ⟨pm, 0, none⟩), .pointer (some ⟨pr, 0, none⟩), .int .u64 s.out, .int .u64 s.inn, .int .i64 s.gr] 69 (0, 0)) :: Ls (Enc.str) 9 (.slice A s.back.length c) s.back :: LinkS pm s.ep s.mov :: RingS pr s.cr s.wait :: R) := by
  obtain ⟨v, H⟩ := H.ex
  obtain ⟨pm, H⟩ := H.ex
  obtain ⟨pr, H⟩ := H.ex
  have H := H.part.at1.part.at1.part.at2
  obtain ⟨A, c, rfl⟩ := H.ls_form
  exact ⟨A, c, pm, pr, H.at3⟩
theorem ChanS.mk_ {p pm pr : Nat} {s : Ch (ByteArray)} {v : Value} {w w0 : World} {R : List HP} (H : Hs w0 w (Blk p (.cells #[.int .i64 s.cr, v, .pointer (some ⟨pm, 0, none⟩), .pointer (some ⟨pr, 0, none⟩), .int .u64 s.out, .int .u64 s.inn, .int .i64 s.gr] 69 (0, 0)) :: Ls (Enc.str) 9 v s.back :: LinkS pm s.ep s.mov :: RingS pr s.cr s.wait :: R)) : Hs w0 w (ChanS p s :: R) :=
  H.at3.at3.join.at2.join.at1.join.mono fun h hh => ⟨_, _, _, hh⟩
theorem chan_new10 (n ep : Int) (w w0 : World) (R : List HP) (H : Hs w0 w R) : Calls Try.prog 10 #[.int .i64 n, .int .u64 ep] w fun e w' => ∃ p, e = .returned (.pointer (some ⟨p, 0, none⟩)) ∧ Hs w0 w' (ChanS p (Ch.fresh n ep) :: R) := by
  rcases (show n < 1 ∨ (1 ≤ n ∧ n ≤ 64) ∨ 64 < n by omega) with h | ⟨h1, h2⟩ | h
  all_goals
    first
      | have hm : min (max n 1) 64 = 1 ∧ min (max 1 1) 65536 = (1 : Int) := by omega
      | have hm : min (max n 1) 64 = n ∧ min (max n 1) 65536 = n := by omega
      | have hm : min (max n 1) 64 = 64 ∧ min (max 64 1) 65536 = (64 : Int) := by omega
    replace hm := Lib.hid hm
    go_enter Try.func10, Try.ntmps10
    go_wp2_with (go_at_call 42; refine (link_new42 ep _ _ _ H).mono ?_)
    rintro e w1 ⟨pm, rfl, H1⟩
    go_wp2_with (go_at_call 43; refine (ring_new43 _ _ _ _ H1).mono ?_)
    rintro e w2 ⟨pr, rfl, H2⟩
    rw [hm.out.2] at H2
    go_wp2_with fail
    go_ret
    refine ⟨_, rfl, ChanS.mk_ (v := .slice none 0 0) (pm := pm) (pr := pr) ?_⟩
    unfold Ch.fresh
    rw [hm.out.1]
    exact (((H2.at1.ls_nil (Enc.str) 9).alloc _))
theorem chan_epoch46 (p : Nat) (s : Ch (ByteArray)) (w w0 : World) (R : List HP) (H : Hs w0 w (ChanS p s :: R)) :
    Calls Try.prog 46 #[.pointer (some ⟨p, 0, none⟩)] w fun e w' => e = .returned (.int .u64 s.ep) ∧ w = w' := by
  obtain ⟨A, c, pm, pr, H⟩ := ChanS.open_ H
  have c2 : w.cell? ⟨p, 2, none⟩ = some (.pointer (some ⟨pm, 0, none⟩)) := H.cellOf 2 rfl
  go_enter Try.func46, Try.ntmps46
  go_wp2_with fail
  refine (link_epoch70 pm s.ep s.mov _ _ _ H.at2).mono ?_
  rintro e w1 ⟨rfl, rfl⟩
  go_wp2_with fail
  go_ret
  exact ⟨rfl, rfl⟩
theorem chan_moving68 (p : Nat) (s : Ch (ByteArray)) (w w0 : World) (R : List HP) (H : Hs w0 w (ChanS p s :: R)) :
    Calls Try.prog 68 #[.pointer (some ⟨p, 0, none⟩)] w fun e w' => e = .returned (.int .i64 s.mov.length) ∧ w = w' := by
  obtain ⟨A, c, pm, pr, H⟩ := ChanS.open_ H
  have c2 : w.cell? ⟨p, 2, none⟩ = some (.pointer (some ⟨pm, 0, none⟩)) := H.cellOf 2 rfl
  go_enter Try.func68, Try.ntmps68
  go_wp2_with fail
  refine (link_len77 pm s.ep s.mov _ _ _ H.at2).mono ?_
  rintro e w1 ⟨rfl, rfl⟩
  go_wp2_with fail
  go_ret
  exact ⟨rfl, rfl⟩
theorem chan_waiting69 (p : Nat) (s : Ch (ByteArray)) (w w0 : World) (R : List HP) (H : Hs w0 w (ChanS p s :: R)) :
    Calls Try.prog 69 #[.pointer (some ⟨p, 0, none⟩)] w fun e w' => e = .returned (.int .i64 s.wait.length) ∧ w = w' := by
  obtain ⟨A, c, pm, pr, H⟩ := ChanS.open_ H
  have c3 : w.cell? ⟨p, 3, none⟩ = some (.pointer (some ⟨pr, 0, none⟩)) := H.cellOf 3 rfl
  go_enter Try.func69, Try.ntmps69
  go_wp2_with fail
  refine (ring_len78 pr s.cr s.wait _ _ _ H.at3).mono ?_
  rintro e w1 ⟨rfl, rfl⟩
  go_wp2_with fail
  go_ret
  exact ⟨rfl, rfl⟩
theorem chan_backlog15 (p : Nat) (s : Ch (ByteArray)) (w w0 : World) (R : List HP) (H : Hs w0 w (ChanS p s :: R)) :
    Calls Try.prog 15 #[.pointer (some ⟨p, 0, none⟩)] w fun e w' => e = .returned (.int .i64 s.back.length) ∧ w = w' := by
  obtain ⟨A, c, pm, pr, H⟩ := ChanS.open_ H
  have c1 : w.cell? ⟨p, 1, none⟩ = some (.slice A s.back.length c) := H.cellOf 1 rfl
  go_enter Try.func15, Try.ntmps15
  go_wp2_with fail
  go_ret
  exact ⟨rfl, rfl⟩
theorem chan_credits44 (p : Nat) (s : Ch (ByteArray)) (w w0 : World) (R : List HP) (H : Hs w0 w (ChanS p s :: R)) (hs : s.Ok) :
    Calls Try.prog 44 #[.pointer (some ⟨p, 0, none⟩)] w fun e w' => e = .returned (.int .i64 s.cred) ∧ ∃ m, w' = w.drewN m := by
  have HC := Lib.hid H
  obtain ⟨A, c, pm, pr, H⟩ := ChanS.open_ H
  have c0 : w.cell? ⟨p, 0, none⟩ = some (.int .i64 s.cr) := H.cellOf 0 rfl
  obtain ⟨h1, h2, h3, h4, h5⟩ := hs
  have e1 : IntKind.i64.wrap (s.cr - (s.mov.length : Int)) = s.cr - s.mov.length := IntWalk.i64_in _ (by omega)
  have e2 : IntKind.i64.wrap (s.cr - (s.mov.length : Int) - (s.wait.length : Int)) = s.cr - s.mov.length - s.wait.length := IntWalk.i64_in _ (by omega)
  clear H h1 h2 h3 h4 h5
  go_enter Try.func44, Try.ntmps44
  go_wp2_with fail
  go_quiet (first | (go_at_call 68; exact quiet_same (chan_moving68 p s _ _ _ (HC.out.drewN _))) | (go_at_call 69; exact quiet_same (chan_waiting69 p s _ _ _ (HC.out.drewN _))))
  go_wp2_with fail
  go_ret
  exact ⟨rfl, _, rfl⟩
theorem chan_offer11 (p : Nat) (s : Ch (ByteArray)) (x : ByteArray) (w w0 : World) (R : List HP) (H : Hs w0 w (ChanS p s :: R)) (hs : s.Ok) :
    Calls Try.prog 11 #[.pointer (some ⟨p, 0, none⟩), Value.string x] w fun e w' => e = .returned (.tuple #[]) ∧ Hs w0 w' (ChanS p (s.offer x) :: R) := by
  obtain ⟨A, c, pm, pr, H⟩ := ChanS.open_ H
  have c1 : w.cell? ⟨p, 1, none⟩ = some (.slice A s.back.length c) := H.cellOf 1 rfl
  have hb := hs.b
  go_enter Try.func11, Try.ntmps11
  go_wp2_with (at_builtin; refine wpList_append1L (E := Enc.str) rfl (.tmp 8) (.tmp 10) 67 rfl 9 _ 1 16 Try.underlying67 info47 rfl (by decide) (by decide) rfl rfl rfl H.at1 x (by omega) ?_)
  intro A1 cp1 w1 H1
  replace H1 := H1.at1
  have hd0 := H1.cellOf 1 rfl
  have hd1 := H1.frozenOf 1
  clear c1
  go_wp2_with fail
  go_end0
  exact ⟨rfl, ChanS.mk_ (H1.setCell (i := 1) _)⟩
theorem chan_take14 (p : Nat) (s : Ch (ByteArray)) (w w0 : World) (R : List HP) (H : Hs w0 w (ChanS p s :: R)) (hs : s.Ok) :
    Calls Try.prog 14 #[.pointer (some ⟨p, 0, none⟩)] w fun e w' => e = .returned (.tuple #[Value.string (s.wait.headD (ByteArray.empty)), .bool (!s.wait.isEmpty)]) ∧ Hs w0 w' (ChanS p s.take :: R) := by
  obtain ⟨A, c, pm, pr, H⟩ := ChanS.open_ H
  have c3 : w.cell? ⟨p, 3, none⟩ = some (.pointer (some ⟨pr, 0, none⟩)) := H.cellOf 3 rfl
  have hb := hs.w
  go_enter Try.func14, Try.ntmps14
  go_wp2_with fail
  refine (ring_take50 pr s.cr s.wait _ _ _ H.at3 (by omega)).mono ?_
  rintro e w1 ⟨rfl, H1⟩
  go_wp2_with fail
  go_ret2
  exact ⟨by first | rfl | simp, ChanS.mk_ H1.at3.at3.at3⟩
theorem chan_send_no12 (p : Nat) (s : Ch (ByteArray)) (w w0 : World) (R : List HP) (H : Hs w0 w (ChanS p s :: R)) (hs : s.Ok) (hn : s.back = [] ∨ s.cred ≤ 0) :
    Calls Try.prog 12 #[.pointer (some ⟨p, 0, none⟩)] w fun e w' => e = .returned (.bool false) ∧ Hs w0 w' (ChanS p s :: R) := by
  have HC := Lib.hid H
  obtain ⟨A, c, pm, pr, H⟩ := ChanS.open_ H
  have c1 : w.cell? ⟨p, 1, none⟩ = some (.slice A s.back.length c) := H.cellOf 1 rfl
  cases hl : s.back with
  | nil =>
    rw [hl] at c1
    simp only [List.length_nil] at c1
    clear hl H hn
    go_enter Try.func12, Try.ntmps12
    go_wp2_with fail
    go_ret
    exact ⟨rfl, HC.out⟩
  | cons b0 bs =>
    rw [hl] at c1
    simp only [List.length_cons] at c1
    have hc : s.cred ≤ 0 := by rcases hn with h | h; (· rw [hl] at h; cases h); exact h
    have hnz : ((bs.length : Int) + 1 == 0) = false := by rw [beq_eq_false_iff_ne]; omega
    clear hl H hn
    go_enter Try.func12, Try.ntmps12
    go_wp2_with fail
    refine (chan_credits44 p s _ _ _ HC.out hs).mono ?_
    rintro e w1 ⟨rfl, m, rfl⟩
    go_wp2_with fail
    go_ret
    exact ⟨rfl, HC.out.drewN m⟩
set_option maxRecDepth 100000 in
theorem chan_send12 (p : Nat) (s : Ch (ByteArray)) (b0 : ByteArray) (bs : List (ByteArray)) (w w0 : World) (R : List HP) (H : Hs w0 w (ChanS p s :: R)) (hs : s.Ok) (hl : s.back = b0 :: bs) (hc : 0 < s.cred) :
    Calls Try.prog 12 #[.pointer (some ⟨p, 0, none⟩)] w fun e w' => e = .returned (.bool true) ∧ Hs w0 w' (ChanS p { s with back := bs, mov := s.mov ++ [(s.ep, s.out, b0)], out := IntKind.u64.wrap (s.out + 1) } :: R) := by
  have HC := Lib.hid H
  obtain ⟨A, c, pm, pr, H⟩ := ChanS.open_ H
  have hmb := hs.m
  have hbb := hs.b
  rw [hl] at H hbb
  simp only [List.length_cons] at H hbb
  have H0 := Lib.hid H
  have hnz : ((bs.length : Int) + 1 == 0) = false := by rw [beq_eq_false_iff_ne]; omega
  obtain ⟨g, off, rfl⟩ := H.at1.ls_rd.some_ (by simp)
  have c1 : w.cell? ⟨p, 1, none⟩ = some (.slice (some ⟨g, off, none⟩) (bs.length + 1) c) := H.cellOf 1 rfl
  have hcd : decide (s.cred ≤ 0) = false := by simp; omega
  clear H hl
  go_enter Try.func12, Try.ntmps12
  go_wp2_with fail
  refine (chan_credits44 p s _ _ _ HC.out hs).mono ?_
  rintro e w1 ⟨rfl, m, rfl⟩
  go_wp2_with fail
  replace H0 := H0.out.drewN m
  replace HC := HC.out.drewN m
  clear c1
  generalize w.drewN m = w1 at *
  have c1 : w1.cell? ⟨p, 1, none⟩ = some (.slice (some ⟨g, off, none⟩) (bs.length + 1) c) := H0.cellOf 1 rfl
  have c2 : w1.cell? ⟨p, 2, none⟩ = some (.pointer (some ⟨pm, 0, none⟩)) := H0.cellOf 2 rfl
  have c4 : w1.cell? ⟨p, 4, none⟩ = some (.int .u64 s.out) := H0.cellOf 4 rfl
  have cb : w1.cell? ⟨g, off, none⟩ = some (Value.string b0) := H0.at1.ls_rd.cell (i := 0) rfl 0 rfl
  go_still_tail 19, mixed
  still_call (still_same (chan_epoch46 p s _ w0 R HC.drew))
  repeat still_step
  still_call (still_same (chan_epoch46 p s _ w0 R HC.drew))
  repeat still_step
  refine wpStill_nil ?_
  change wpList _ _ _ _ _ w1.drew
  replace H0 := H0.drew
  clear c1 c2 c4 cb HC
  generalize w1.drew = w2 at *
  go_wp2_with (go_at_call 45; refine (link_send45 pm s.ep s.ep (s.ep, s.out, b0) s.mov _ w0 _ H0.at2 (by omega)).mono ?_)
  rintro e w3 rfl H1
  replace H1 := H1.at2.at2.at1
  have c1 := H1.at1.cellOf 1 rfl
  have c4 : w3.cell? ⟨p, 4, none⟩ = some (.int .u64 s.out) := H1.at1.cellOf 4 rfl
  have f4 := H1.at1.frozenOf 4
  have H2 := Lib.hid (H1.at1.setCell (i := 4) (.int .u64 (IntKind.u64.wrap (s.out + 1))))
  go_wp2_with (go_at_call 47; refine (delete47 _ (b0 :: bs) 0 1 _ w0 _ H2.out.at1 (by omega) (by omega) (by rw [List.length_cons]; omega) (by rw [List.length_cons]; omega)).mono ?_)
  rintro e w4 ⟨A4, cp4, mm, hm, rfl, H4⟩
  obtain rfl : mm = bs.length := by simp at hm; exact hm
  clear hm c4 f4 c1 H0 H1 H2
  replace H4 := H4.at1
  have c5 := H4.cellOf 1 rfl
  have f5 := H4.frozenOf 1
  go_wp2_with fail
  go_ret
  exact ⟨rfl, ChanS.mk_ (H4.setCell (i := 1) _)⟩
theorem chan_arrive_old49 (p : Nat) (s : Ch (ByteArray)) (ep q : Int) (x : ByteArray) (w w0 : World) (R : List HP) (H : Hs w0 w (ChanS p s :: R)) (he : ep ≠ s.ep) :
    Calls Try.prog 49 #[.pointer (some ⟨p, 0, none⟩), .int .u64 ep, .int .u64 q, Value.string x] w fun e w' => e = .returned (.int .i64 62) ∧ w = w' := by
  have hne : (ep != s.ep) = true := by rw [bne_iff_ne]; exact he
  clear he
  go_enter Try.func49, Try.ntmps49
  go_wp2_with fail
  refine (chan_epoch46 p s _ _ _ H).mono ?_
  rintro e w1 ⟨rfl, rfl⟩
  go_wp2_with fail
  go_ret
  exact ⟨rfl, rfl⟩
theorem chan_arrive_seq49 (p : Nat) (s : Ch (ByteArray)) (q : Int) (x : ByteArray) (w w0 : World) (R : List HP) (H : Hs w0 w (ChanS p s :: R)) (hs : s.Ok) (hq : q ≠ s.inn ∨ s.cr ≤ s.wait.length) :
    Calls Try.prog 49 #[.pointer (some ⟨p, 0, none⟩), .int .u64 s.ep, .int .u64 q, Value.string x] w fun e w' => e = .returned (.int .i64 61) ∧ Hs w0 w' (ChanS p s :: R) := by
  have HC := Lib.hid H
  obtain ⟨A, c, pm, pr, H⟩ := ChanS.open_ H
  have c5 : w.cell? ⟨p, 5, none⟩ = some (.int .u64 s.inn) := H.cellOf 5 rfl
  have c3 : w.cell? ⟨p, 3, none⟩ = some (.pointer (some ⟨pr, 0, none⟩)) := H.cellOf 3 rfl
  have hwb := hs.w
  by_cases h : q = s.inn
  · subst h
    have hf : s.cr ≤ (s.wait.length : Int) := by rcases hq with h | h; (exact absurd rfl h); omega
    have hf := Lib.hid hf
    clear hq
    go_enter Try.func49, Try.ntmps49
    go_wp2_with fail
    refine (chan_epoch46 p s _ _ _ HC.out).mono ?_
    rintro e w1 ⟨rfl, rfl⟩
    go_wp2_with fail
    refine (ring_put72 pr s.cr x s.wait _ _ _ H.at3 (by omega)).mono ?_
    rw [if_neg (by have := hf.out; omega), decide_eq_false (by have := hf.out; omega)]
    rintro e w1 ⟨rfl, H1⟩
    go_wp2_with fail
    go_ret
    exact ⟨rfl, ChanS.mk_ H1.at3.at3.at3⟩
  · have hne : (q != s.inn) = true := by rw [bne_iff_ne]; exact h
    clear h hq
    go_enter Try.func49, Try.ntmps49
    go_wp2_with fail
    refine (chan_epoch46 p s _ _ _ HC.out).mono ?_
    rintro e w1 ⟨rfl, rfl⟩
    go_wp2_with fail
    go_ret
    exact ⟨rfl, HC.out⟩
set_option maxRecDepth 100000 in
theorem chan_arrive49 (p : Nat) (s : Ch (ByteArray)) (x : ByteArray) (w w0 : World) (R : List HP) (H : Hs w0 w (ChanS p s :: R)) (hs : s.Ok) (hq : (s.wait.length : Int) < s.cr) :
    Calls Try.prog 49 #[.pointer (some ⟨p, 0, none⟩), .int .u64 s.ep, .int .u64 s.inn, Value.string x] w fun e w' => e = .returned (.int .i64 0) ∧ Hs w0 w' (ChanS p { s with inn := IntKind.u64.wrap (s.inn + 1), wait := s.wait ++ [x], gr := max s.gr (s.wait.length + 1) } :: R) := by
  have HC := Lib.hid H
  obtain ⟨A, c, pm, pr, H⟩ := ChanS.open_ H
  have c5 : w.cell? ⟨p, 5, none⟩ = some (.int .u64 s.inn) := H.cellOf 5 rfl
  have c3 : w.cell? ⟨p, 3, none⟩ = some (.pointer (some ⟨pr, 0, none⟩)) := H.cellOf 3 rfl
  have hwb := hs.w
  have hf := Lib.hid hq
  clear hq
  go_enter Try.func49, Try.ntmps49
  go_wp2_with fail
  refine (chan_epoch46 p s _ _ _ HC.out).mono ?_
  rintro e w1 ⟨rfl, rfl⟩
  go_wp2_with fail
  refine (ring_put72 pr s.cr x s.wait _ _ _ H.at3 (by omega)).mono ?_
  rw [if_pos hf.out, decide_eq_true hf.out]
  rintro e w1 ⟨rfl, H1⟩
  clear c5 c3 HC H
  have H1 := H1.at3.at3.at3
  have c5 : w1.cell? ⟨p, 5, none⟩ = some (.int .u64 s.inn) := H1.cellOf 5 rfl
  have f5 := H1.frozenOf 5
  have H2 := Lib.hid (H1.setCell (i := 5) (.int .u64 (IntKind.u64.wrap (s.inn + 1))))
  clear H1
  go_wp2_with fail
  generalize w1.setCell _ _ = w2 at *
  have H2 := H2.out
  have HC := Lib.hid (ChanS.mk_ (s := { s with inn := IntKind.u64.wrap (s.inn + 1), wait := s.wait ++ [x] }) H2)
  have hw := chan_waiting69 p _ _ _ _ HC.out.drew
  have c6 : w2.cell? ⟨p, 6, none⟩ = some (.int .i64 s.gr) := H2.cellOf 6 rfl
  have hwl : ((s.wait ++ [x]).length : Int) = (s.wait.length : Int) + 1 := by simp
  simp only [hwl] at hw
  clear hwl c5 f5
  rcases Int.lt_or_le s.gr ((s.wait.length : Int) + 1) with hg | hg
  all_goals
    first
      | have hmx : max s.gr ((s.wait.length : Int) + 1) = (s.wait.length : Int) + 1 := by omega
      | have hmx : max s.gr ((s.wait.length : Int) + 1) = s.gr := by omega
    replace hmx := Lib.hid hmx
    go_still_tail 10, mixed
    still_call (still_same hw)
    repeat still_step
    refine wpStill_nil ?_
    change wpList _ _ _ _ _ w2.drew
    replace H2 := H2.drew
    clear c6 hw HC
    generalize w2.drew = w3 at *
    have c6 := H2.cellOf 6 rfl
    have f6 := H2.frozenOf 6
    go_wp2_with fail
    go_ret
    have H3 := Lib.hid (H2.setCell (i := 6) (.int .i64 (max s.gr ((s.wait.length : Int) + 1))))
    rw [hmx.out] at H3
    refine ⟨rfl, ?_⟩
    rw [hmx.out]
    exact ChanS.mk_ H3.out
theorem chan_arrives49 (p : Nat) (s : Ch (ByteArray)) (e q : Int) (x : ByteArray) (w w0 : World) (R : List HP) (H : Hs w0 w (ChanS p s :: R)) (hs : s.Ok) :
    Calls Try.prog 49 #[.pointer (some ⟨p, 0, none⟩), .int .u64 e, .int .u64 q, Value.string x] w fun r w' => r = .returned (.int .i64 (s.arr e q)) ∧ Hs w0 w' (ChanS p (s.arrive e q x) :: R) := by
  unfold Ch.arrive Ch.arr
  by_cases he : e ≠ s.ep
  · rw [if_pos he, if_neg (by decide)]
    exact (chan_arrive_old49 p s e q x w w0 R H he).mono fun _ _ h => ⟨h.1, h.2 ▸ H⟩
  · rw [if_neg he]
    obtain rfl : e = s.ep := Decidable.not_not.1 he
    by_cases hq : q ≠ s.inn ∨ s.cr ≤ s.wait.length
    · rw [if_pos hq, if_neg (by decide)]
      exact chan_arrive_seq49 p s q x w w0 R H hs hq
    · rw [if_neg hq, if_pos rfl]
      obtain rfl : q = s.inn := Decidable.not_not.1 fun h => hq (.inl h)
      exact chan_arrive49 p s x w w0 R H hs (by omega)
set_option maxRecDepth 100000 in
theorem chan_deliver13 (p : Nat) (s : Ch (ByteArray)) (w w0 : World) (R : List HP) (H : Hs w0 w (ChanS p s :: R)) (hs : s.Ok) :
    Calls Try.prog 13 #[.pointer (some ⟨p, 0, none⟩)] w fun r w' => r = .returned (.int .i64 s.dlv) ∧ Hs w0 w' (ChanS p s.deliver :: R) := by
  have HC := Lib.hid H
  obtain ⟨A, c, pm, pr, H⟩ := ChanS.open_ H
  have c2 : w.cell? ⟨p, 2, none⟩ = some (.pointer (some ⟨pm, 0, none⟩)) := H.cellOf 2 rfl
  unfold Ch.dlv Ch.deliver
  cases hl : s.mov with
  | nil =>
    simp only
    have H1 := H
    rw [hl] at H1
    replace H1 := Lib.hid H1
    have hl' := Lib.hid hl
    clear hl H
    go_enter Try.func13, Try.ntmps13
    go_wp2_with fail
    refine (link_deliver_nil48 pm s.ep _ w0 _ H1.out.at2).mono ?_
    rintro e w1 ⟨rfl, H2⟩
    go_wp2_with fail
    go_ret
    rw [← hl'.out] at H2
    exact ⟨rfl, ChanS.mk_ (s := s) ((H2.at2.at2).alloc_ _)⟩
  | cons m r =>
    simp only
    have hmb := hs.m
    rw [hl] at hmb
    simp only [List.length_cons] at hmb
    have hok : Hid (Ch.Ok { s with mov := r }) := ⟨hs.c1, hs.c2, hs.b, by show r.length ≤ _; omega, hs.w⟩
    have H1 := H
    rw [hl] at H1
    replace H1 := Lib.hid H1
    clear hl H
    go_enter Try.func13, Try.ntmps13
    go_wp2_with fail
    refine (link_deliver48 pm s.ep m r _ w0 _ H1.out.at2 (by omega)).mono ?_
    rintro e w1 ⟨rfl, H2⟩
    have H3 := Lib.hid (ChanS.mk_ (s := { s with mov := r }) H2.at2.at2)
    clear H1 H2 c2
    go_wp2_with fail
    refine (chan_arrives49 p { s with mov := r } m.1 m.2.1 m.2.2 _ w0 R (H3.out.alloc_ _) hok.out).mono ?_
    rintro e w2 ⟨rfl, H4⟩
    go_wp2_with fail
    go_ret
    exact ⟨rfl, H4⟩
end Go.Proofs.Ytoiokmfdmpifiaa

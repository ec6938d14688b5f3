import Derived.Test.YtoiokmfdmpifiaaCb
import Derived.Test.YtoiokmfdmpifiaaProg
import Derived.Test.YtoiokmfdmpifiaaLs
import Derived.Outline
import Derived.StillTailTactics
import Derived.Deep.DeepCutAuto
import Derived.Deep.CutBlock
import Derived.Deep.LoopGhost
import Derived.Deep.QuietTactic
import Derived.BigQuiet
import Derived.Deep.RegionHeld3
import Derived.Deep.RegionLaw
set_option linter.unusedVariables false
set_option linter.unusedSimpArgs false
namespace Go.Proofs.Ytoiokmfdmpifiaa
open Go.RowKit
theorem chan_most28 (p : Nat) (s : Ch (Int)) (w w0 : World) (R : List HP) (H : Hs w0 w (ChanI p s :: R)) :
    Calls Try.prog 28 #[.pointer (some ⟨p, 0, none⟩)] w fun e w' => e = .returned (.int .i64 s.gr) ∧ w = w' := by
  obtain ⟨A, c, pm, pr, H⟩ := ChanI.open_ H
  have c1 : w.cell? ⟨p, 6, none⟩ = some (.int .i64 s.gr) := H.cellOf 6 rfl
  go_enter Try.func28, Try.ntmps28
  go_wp2_with fail
  go_ret
  exact ⟨rfl, rfl⟩
theorem chan_peek41 (p : Nat) (s : Ch (Int)) (i : Int) (w w0 : World) (R : List HP) (H : Hs w0 w (ChanI p s :: R)) :
    Calls Try.prog 41 #[.pointer (some ⟨p, 0, none⟩), .int .i64 i] w fun e w' => e = .returned (.tuple (if 0 ≤ i ∧ i < s.wait.length then #[Value.int .i64 (s.wait.getD i.toNat (0)), .bool true] else #[Value.int .i64 (0), .bool false])) ∧ w = w' := by
  obtain ⟨A, c, pm, pr, H⟩ := ChanI.open_ H
  have c1 : w.cell? ⟨p, 3, none⟩ = some (.pointer (some ⟨pr, 0, none⟩)) := H.cellOf 3 rfl
  rcases (show (0 ≤ i ∧ i < s.wait.length) ∨ (i < 0 ∨ (s.wait.length : Int) ≤ i) by omega) with h | h
  · obtain ⟨x, hx⟩ : ∃ x, s.wait[i.toNat]? = some x := ⟨s.wait[i.toNat]'(by omega), List.getElem?_eq_getElem (by omega)⟩
    have hr : Hid (s.wait.getD i.toNat (0) = x) := by show _ = _; rw [List.getD_eq_getElem?_getD, hx]; rfl
    rw [if_pos h]
    have h0 := Lib.hid h
    have hx0 := Lib.hid hx
    clear hx h
    go_enter Try.func41, Try.ntmps41
    go_wp2_with fail
    refine (ring_peek66 pr s.cr i x s.wait _ _ _ H.at3 h0.out.1 hx0.out).mono ?_
    rintro e w1 ⟨rfl, rfl⟩
    go_wp2_with fail
    go_ret2
    rw [hr.out]
    exact ⟨rfl, rfl⟩
  · rw [if_neg (by omega)]
    have h0 := Lib.hid h
    clear h
    go_enter Try.func41, Try.ntmps41
    go_wp2_with fail
    refine (ring_peek_no66 pr s.cr i s.wait _ _ _ H.at3 h0.out).mono ?_
    rintro e w1 ⟨rfl, rfl⟩
    go_wp2_with fail
    go_ret2
    exact ⟨rfl, rfl⟩
theorem chan_kill21 (p : Nat) (s : Ch (Int)) (n : Int) (w w0 : World) (R : List HP) (H : Hs w0 w (ChanI p s :: R)) :
    Calls Try.prog 21 #[.pointer (some ⟨p, 0, none⟩), .int .u64 n] w fun e w' => e = .returned (.tuple #[]) ∧ Hs w0 w' (ChanI p (s.kill n) :: R) := by
  obtain ⟨A, c, pm, pr, H⟩ := ChanI.open_ H
  have c3 : w.cell? ⟨p, 3, none⟩ = some (.pointer (some ⟨pr, 0, none⟩)) := H.cellOf 3 rfl
  go_enter Try.func21, Try.ntmps21
  go_wp2_with fail
  refine (ring_clear57 pr s.cr s.wait _ _ _ H.at3).mono ?_
  rintro e w1 ⟨rfl, H1⟩
  have H1 := H1.at1
  clear c3
  have c2 : w1.cell? ⟨p, 2, none⟩ = some (.pointer (some ⟨pm, 0, none⟩)) := H1.cellOf 2 rfl
  go_wp2_with fail
  refine (link_kill58 pm s.ep n s.mov _ _ _ H1.at3).mono ?_
  rintro e w2 ⟨rfl, H2⟩
  have H2 := H2.at1
  clear c2
  have c1 := H2.cellOf 1 rfl
  have f1 := H2.frozenOf 1
  have c4 := H2.cellOf 4 rfl
  have f4 := H2.frozenOf 4
  have c5 := H2.cellOf 5 rfl
  have f5 := H2.frozenOf 5
  go_wp2_with fail
  go_end0
  have H3 := ((H2.setCell (i := 1) (.slice none 0 0)).setCell (i := 4) (.int .u64 1)).setCell (i := 5) (.int .u64 1)
  exact ⟨rfl, ChanI.mk_ (v := .slice none 0 0) (H3.at3.drop.ls_nil (Enc.num .i64) 3).at1⟩
theorem chan_arrive_old22 (p : Nat) (s : Ch (Int)) (ep q : Int) (x : Int) (w w0 : World) (R : List HP) (H : Hs w0 w (ChanI p s :: R)) (he : ep ≠ s.ep) :
    Calls Try.prog 22 #[.pointer (some ⟨p, 0, none⟩), .int .u64 ep, .int .u64 q, Value.int .i64 x] w fun e w' => e = .returned (.int .i64 62) ∧ w = w' := by
  have hne : (ep != s.ep) = true := by rw [bne_iff_ne]; exact he
  clear he
  go_enter Try.func22, Try.ntmps22
  go_wp2_with fail
  refine (chan_epoch23 p s _ _ _ H).mono ?_
  rintro e w1 ⟨rfl, rfl⟩
  go_wp2_with fail
  go_ret
  exact ⟨rfl, rfl⟩
theorem chan_arrive_seq22 (p : Nat) (s : Ch (Int)) (q : Int) (x : Int) (w w0 : World) (R : List HP) (H : Hs w0 w (ChanI p s :: R)) (hs : s.Ok) (hq : q ≠ s.inn ∨ s.cr ≤ s.wait.length) :
    Calls Try.prog 22 #[.pointer (some ⟨p, 0, none⟩), .int .u64 s.ep, .int .u64 q, Value.int .i64 x] w fun e w' => e = .returned (.int .i64 61) ∧ Hs w0 w' (ChanI p s :: R) := by
  have HC := Lib.hid H
  obtain ⟨A, c, pm, pr, H⟩ := ChanI.open_ H
  have c5 : w.cell? ⟨p, 5, none⟩ = some (.int .u64 s.inn) := H.cellOf 5 rfl
  have c3 : w.cell? ⟨p, 3, none⟩ = some (.pointer (some ⟨pr, 0, none⟩)) := H.cellOf 3 rfl
  have hwb := hs.w
  by_cases h : q = s.inn
  · subst h
    have hf : s.cr ≤ (s.wait.length : Int) := by rcases hq with h | h; (exact absurd rfl h); omega
    have hf := Lib.hid hf
    clear hq
    go_enter Try.func22, Try.ntmps22
    go_wp2_with fail
    refine (chan_epoch23 p s _ _ _ HC.out).mono ?_
    rintro e w1 ⟨rfl, rfl⟩
    go_wp2_with fail
    refine (ring_put59 pr s.cr x s.wait _ _ _ H.at3 (by omega)).mono ?_
    rw [if_neg (by have := hf.out; omega), decide_eq_false (by have := hf.out; omega)]
    rintro e w1 ⟨rfl, H1⟩
    go_wp2_with fail
    go_ret
    exact ⟨rfl, ChanI.mk_ H1.at3.at3.at3⟩
  · have hne : (q != s.inn) = true := by rw [bne_iff_ne]; exact h
    clear h hq
    go_enter Try.func22, Try.ntmps22
    go_wp2_with fail
    refine (chan_epoch23 p s _ _ _ HC.out).mono ?_
    rintro e w1 ⟨rfl, rfl⟩
    go_wp2_with fail
    go_ret
    exact ⟨rfl, HC.out⟩
set_option maxRecDepth 100000 in
theorem chan_arrive22 (p : Nat) (s : Ch (Int)) (x : Int) (w w0 : World) (R : List HP) (H : Hs w0 w (ChanI p s :: R)) (hs : s.Ok) (hq : (s.wait.length : Int) < s.cr) :
    Calls Try.prog 22 #[.pointer (some ⟨p, 0, none⟩), .int .u64 s.ep, .int .u64 s.inn, Value.int .i64 x] w fun e w' => e = .returned (.int .i64 0) ∧ Hs w0 w' (ChanI p { s with inn := IntKind.u64.wrap (s.inn + 1), wait := s.wait ++ [x], gr := max s.gr (s.wait.length + 1) } :: R) := by
  have HC := Lib.hid H
  obtain ⟨A, c, pm, pr, H⟩ := ChanI.open_ H
  have c5 : w.cell? ⟨p, 5, none⟩ = some (.int .u64 s.inn) := H.cellOf 5 rfl
  have c3 : w.cell? ⟨p, 3, none⟩ = some (.pointer (some ⟨pr, 0, none⟩)) := H.cellOf 3 rfl
  have hwb := hs.w
  have hf := Lib.hid hq
  clear hq
  go_enter Try.func22, Try.ntmps22
  go_wp2_with fail
  refine (chan_epoch23 p s _ _ _ HC.out).mono ?_
  rintro e w1 ⟨rfl, rfl⟩
  go_wp2_with fail
  refine (ring_put59 pr s.cr x s.wait _ _ _ H.at3 (by omega)).mono ?_
  rw [if_pos hf.out, decide_eq_true hf.out]
  rintro e w1 ⟨rfl, H1⟩
  clear c5 c3 HC H
  have H1 := H1.at3.at3.at3
  have c5 : w1.cell? ⟨p, 5, none⟩ = some (.int .u64 s.inn) := H1.cellOf 5 rfl
  have f5 := H1.frozenOf 5
  have H2 := Lib.hid (H1.setCell (i := 5) (.int .u64 (IntKind.u64.wrap (s.inn + 1))))
  clear H1
  go_wp2_with fail
  generalize w1.setCell _ _ = w2 at *
  have H2 := H2.out
  have HC := Lib.hid (ChanI.mk_ (s := { s with inn := IntKind.u64.wrap (s.inn + 1), wait := s.wait ++ [x] }) H2)
  have hw := chan_waiting27 p _ _ _ _ HC.out.drew
  have c6 : w2.cell? ⟨p, 6, none⟩ = some (.int .i64 s.gr) := H2.cellOf 6 rfl
  have hwl : ((s.wait ++ [x]).length : Int) = (s.wait.length : Int) + 1 := by simp
  simp only [hwl] at hw
  clear hwl c5 f5
  rcases Int.lt_or_le s.gr ((s.wait.length : Int) + 1) with hg | hg
  all_goals
    first
      | have hmx : max s.gr ((s.wait.length : Int) + 1) = (s.wait.length : Int) + 1 := by omega
      | have hmx : max s.gr ((s.wait.length : Int) + 1) = s.gr := by omega
    replace hmx := Lib.hid hmx
    go_still_tail 10, mixed
    still_call (still_same hw)
    repeat still_step
    refine wpStill_nil ?_
    change wpList _ _ _ _ _ w2.drew
    replace H2 := H2.drew
    clear c6 hw HC
    generalize w2.drew = w3 at *
    have c6 := H2.cellOf 6 rfl
    have f6 := H2.frozenOf 6
    go_wp2_with fail
    go_ret
    have H3 := Lib.hid (H2.setCell (i := 6) (.int .i64 (max s.gr ((s.wait.length : Int) + 1))))
    rw [hmx.out] at H3
    refine ⟨rfl, ?_⟩
    rw [hmx.out]
    exact ChanI.mk_ H3.out
theorem chan_arrives22 (p : Nat) (s : Ch (Int)) (e q : Int) (x : Int) (w w0 : World) (R : List HP) (H : Hs w0 w (ChanI p s :: R)) (hs : s.Ok) :
    Calls Try.prog 22 #[.pointer (some ⟨p, 0, none⟩), .int .u64 e, .int .u64 q, Value.int .i64 x] w fun r w' => r = .returned (.int .i64 (s.arr e q)) ∧ Hs w0 w' (ChanI p (s.arrive e q x) :: R) := by
  unfold Ch.arrive Ch.arr
  by_cases he : e ≠ s.ep
  · rw [if_pos he, if_neg (by decide)]
    exact (chan_arrive_old22 p s e q x w w0 R H he).mono fun _ _ h => ⟨h.1, h.2 ▸ H⟩
  · rw [if_neg he]
    obtain rfl : e = s.ep := Decidable.not_not.1 he
    by_cases hq : q ≠ s.inn ∨ s.cr ≤ s.wait.length
    · rw [if_pos hq, if_neg (by decide)]
      exact chan_arrive_seq22 p s q x w w0 R H hs hq
    · rw [if_neg hq, if_pos rfl]
      obtain rfl : q = s.inn := Decidable.not_not.1 fun h => hq (.inl h)
      exact chan_arrive22 p s x w w0 R H hs (by omega)
set_option maxRecDepth 100000 in
theorem chan_deliver19 (p : Nat) (s : Ch (Int)) (w w0 : World) (R : List HP) (H : Hs w0 w (ChanI p s :: R)) (hs : s.Ok) :
    Calls Try.prog 19 #[.pointer (some ⟨p, 0, none⟩)] w fun r w' => r = .returned (.int .i64 s.dlv) ∧ Hs w0 w' (ChanI p s.deliver :: R) := by
  have HC := Lib.hid H
  obtain ⟨A, c, pm, pr, H⟩ := ChanI.open_ H
  have c2 : w.cell? ⟨p, 2, none⟩ = some (.pointer (some ⟨pm, 0, none⟩)) := H.cellOf 2 rfl
  unfold Ch.dlv Ch.deliver
  cases hl : s.mov with
  | nil =>
    simp only
    have H1 := H
    rw [hl] at H1
    replace H1 := Lib.hid H1
    have hl' := Lib.hid hl
    clear hl H
    go_enter Try.func19, Try.ntmps19
    go_wp2_with fail
    refine (link_deliver_nil55 pm s.ep _ w0 _ H1.out.at2).mono ?_
    rintro e w1 ⟨rfl, H2⟩
    go_wp2_with fail
    go_ret
    rw [← hl'.out] at H2
    exact ⟨rfl, ChanI.mk_ (s := s) ((H2.at2.at2).alloc_ _)⟩
  | cons m r =>
    simp only
    have hmb := hs.m
    rw [hl] at hmb
    simp only [List.length_cons] at hmb
    have hok : Hid (Ch.Ok { s with mov := r }) := ⟨hs.c1, hs.c2, hs.b, by show r.length ≤ _; omega, hs.w⟩
    have H1 := H
    rw [hl] at H1
    replace H1 := Lib.hid H1
    clear hl H
    go_enter Try.func19, Try.ntmps19
    go_wp2_with fail
    refine (link_deliver55 pm s.ep m r _ w0 _ H1.out.at2 (by omega)).mono ?_
    rintro e w1 ⟨rfl, H2⟩
    have H3 := Lib.hid (ChanI.mk_ (s := { s with mov := r }) H2.at2.at2)
    clear H1 H2 c2
    go_wp2_with fail
    refine (chan_arrives22 p { s with mov := r } m.1 m.2.1 m.2.2 _ w0 R (H3.out.alloc_ _) hok.out).mono ?_
    rintro e w2 ⟨rfl, H4⟩
    go_wp2_with fail
    go_ret
    exact ⟨rfl, H4⟩
end Go.Proofs.Ytoiokmfdmpifiaa

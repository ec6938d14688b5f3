import Derived.Test.YtoiokmfdmpifiaaCc
import Derived.Test.YtoiokmfdmpifiaaSv
import Derived.Test.YtoiokmfdmpifiaaProg
import Derived.Test.YtoiokmfdmpifiaaLs
import Derived.Outline
import Derived.StillTailTactics
import Derived.Deep.DeepCutAuto
import Derived.Deep.CutBlock
import Derived.Deep.LoopGhost
import Derived.Deep.QuietTactic
import Derived.BigQuiet
import Derived.Deep.RegionHeld3
import Derived.Deep.RegionLaw
set_option linter.unusedVariables false
set_option linter.unusedSimpArgs false
namespace Go.Proofs.Ytoiokmfdmpifiaa
open Go.RowKit
set_option maxRecDepth 100000 in
theorem chan_drain24 (p : Nat) (s : Ch (Int)) (w w0 : World) (R : List HP) (H : Hs w0 w (ChanI p s :: R)) (hs : s.Ok) :
    Calls Try.prog 24 #[.pointer (some ⟨p, 0, none⟩)] w fun e w' => ∃ A n c, e = .returned (.slice A n c) ∧ n = s.rest.length ∧ Hs w0 w' (Ls (Enc.num .i64) 3 (.slice A n c) s.rest :: ChanI p s.drain :: R) := by
  obtain ⟨A, c, pm, pr, H⟩ := ChanI.open_ H
  have c3 : w.cell? ⟨p, 3, none⟩ = some (.pointer (some ⟨pr, 0, none⟩)) := H.cellOf 3 rfl
  have hbb := hs.b
  have hbm := hs.m
  have hbw := hs.w
  go_enter Try.func24, Try.ntmps24
  go_wp2_with fail
  refine (ring_all61 pr s.cr s.wait _ _ _ H.at3 (by omega)).mono ?_
  rintro e w1 ⟨A1, cp1, rfl, H1⟩
  replace H1 := H1.at2
  clear c3
  have c2 : w1.cell? ⟨p, 2, none⟩ = some (.pointer (some ⟨pm, 0, none⟩)) := H1.cellOf 2 rfl
  go_wp2_with fail
  refine (link_all62 pm s.ep s.mov _ _ _ H1.at4 (by omega)).mono ?_
  rintro e w2 ⟨A2, cp2, rfl, H2⟩
  clear H1 H c2
  have H : Hs w0 w2 (Ls (Enc.num .i64) 3 (.slice A1 s.wait.length cp1) s.wait :: Blk p (.cells #[.int .i64 s.cr, .slice A s.back.length c, .pointer (some ⟨pm, 0, none⟩), .pointer (some ⟨pr, 0, none⟩), .int .u64 s.out, .int .u64 s.inn, .int .i64 s.gr] 82 (0, 0)) :: Ls (Enc.num .i64) 3 (.slice A s.back.length c) s.back :: LinkI pm s.ep s.mov :: RingI pr s.cr s.wait :: Ls ((Enc.num .u64).pair ((Enc.num .u64).pair (Enc.num .i64))) 78 (.slice A2 s.mov.length cp2) s.mov :: R) := by
    have H := H2
    (refine Hs.conseq H fun h s => ?_; refine Sep.pickc (by first | with_reducible exact s | with_reducible exact s.at1 | with_reducible exact s.at2 | with_reducible exact s.at3 | with_reducible exact s.at4 | with_reducible exact s.at5 | with_reducible exact s.at6 | with_reducible exact s.at7) (fun h s => ?_); refine Sep.pickc (by first | with_reducible exact s | with_reducible exact s.at1 | with_reducible exact s.at2 | with_reducible exact s.at3 | with_reducible exact s.at4 | with_reducible exact s.at5 | with_reducible exact s.at6 | with_reducible exact s.at7) (fun h s => ?_); refine Sep.pickc (by first | with_reducible exact s | with_reducible exact s.at1 | with_reducible exact s.at2 | with_reducible exact s.at3 | with_reducible exact s.at4 | with_reducible exact s.at5 | with_reducible exact s.at6 | with_reducible exact s.at7) (fun h s => ?_); refine Sep.pickc (by first | with_reducible exact s | with_reducible exact s.at1 | with_reducible exact s.at2 | with_reducible exact s.at3 | with_reducible exact s.at4 | with_reducible exact s.at5 | with_reducible exact s.at6 | with_reducible exact s.at7) (fun h s => ?_); refine Sep.pickc (by first | with_reducible exact s | with_reducible exact s.at1 | with_reducible exact s.at2 | with_reducible exact s.at3 | with_reducible exact s.at4 | with_reducible exact s.at5 | with_reducible exact s.at6 | with_reducible exact s.at7) (fun h s => ?_); refine Sep.pickc (by first | with_reducible exact s | with_reducible exact s.at1 | with_reducible exact s.at2 | with_reducible exact s.at3 | with_reducible exact s.at4 | with_reducible exact s.at5 | with_reducible exact s.at6 | with_reducible exact s.at7) (fun h s => ?_); exact s)
  clear H2
  replace H := Lib.hid H
  go_wp2_with fail
  go_loopg [3, 5, 17] s.mov.length (fun k out bx i wr => ∃ (j n : Nat) (A3 : Option Addr) (cp3 : Nat), k + j = s.mov.length ∧ i = .int .i64 j ∧ out = .slice A3 n cp3 ∧ n = (s.wait ++ (s.mov.take j).map (·.2.2)).length ∧ Hid (Hs w0 wr (Ls (Enc.num .i64) 3 (.slice A3 n cp3) (s.wait ++ (s.mov.take j).map (·.2.2)) :: Blk p (.cells #[.int .i64 s.cr, .slice A s.back.length c, .pointer (some ⟨pm, 0, none⟩), .pointer (some ⟨pr, 0, none⟩), .int .u64 s.out, .int .u64 s.inn, .int .i64 s.gr] 82 (0, 0)) :: Ls (Enc.num .i64) 3 (.slice A s.back.length c) s.back :: LinkI pm s.ep s.mov :: RingI pr s.cr s.wait :: Ls ((Enc.num .u64).pair ((Enc.num .u64).pair (Enc.num .i64))) 78 (.slice A2 s.mov.length cp2) s.mov :: R)))
  case atStart => exact ⟨0, _, A1, cp1, rfl, rfl, rfl, by simp, by rw [List.take_zero, List.map_nil, List.append_nil]; exact H.out⟩
  case round =>
    clear H
    obtain ⟨j, n, A3, cp3, hk, rfl, rfl, hn, H⟩ := hrel
    replace hk := Lib.hid hk
    have hnb : n ≤ 200000 := by rw [hn]; simp; omega
    have hn' := Lib.hid hn
    rcases Nat.lt_or_ge j s.mov.length with hj | hj
    · have hj1 : (j : Int) < (s.mov.length : Int) := by omega
      obtain ⟨g, off, rfl⟩ := H.out.at5.ls_rd.some_ (by omega)
      obtain ⟨x, hx⟩ : ∃ x, s.mov[j]? = some x := ⟨_, List.getElem?_eq_getElem hj⟩
      have s0 : wr.cell? ⟨g, off + j * 3, none⟩ = some (.int .u64 x.1) := H.out.at5.ls_rd.cell hx 0 rfl
      have s1 : wr.cell? ⟨g, off + j * 3 + 1, none⟩ = some (.int .u64 x.2.1) := H.out.at5.ls_rd.cell hx 1 rfl
      have s2 : wr.cell? ⟨g, off + j * 3 + 2, none⟩ = some (Value.int .i64 x.2.2) := H.out.at5.ls_rd.cell hx 2 rfl
      have hg : g < wr.heap.size := lt_of_cell s0
      have hnx : Hid (s.wait ++ (s.mov.take j).map (·.2.2) ++ [x.2.2] = s.wait ++ (s.mov.take (j + 1)).map (·.2.2)) := by
        show _ = _
        rw [List.append_assoc, List.take_add_one, hx]
        simp
      clear hx hn
      go_wp2_with (at_builtin; refine wpList_append1N (E := Enc.num .i64) n hn'.out.symm rfl (.tmp 21) (.tmp 24) 48 rfl 3 _ 1 8 Try.underlying48 info54 rfl (by decide) (by decide) rfl rfl rfl (by simp) (H.out.alloc_ _) x.2.2 (by omega) ?_)
      intro A4 cp4 w3 H3
      replace H3 := Lib.hid (H3.ls_eq (ys := s.wait ++ (s.mov.take (j + 1)).map (·.2.2)) (by have := hnx.out; simpa using this))
      clear s0 s1 s2 hg
      go_wp2_with fail
      go_roundg (s.mov.length - (j + 1))
      case measure => have := hk.out; omega
      case rel => exact ⟨j + 1, n + 1, A4, cp4, by omega, by simp, rfl, by have := congrArg List.length hnx.out; simp at this ⊢; have := hn'.out; simp at this; omega, H3.out⟩
    · have hj1 : (s.mov.length : Int) ≤ (j : Int) := by omega
      obtain rfl : j = s.mov.length := by have := hk.out; omega
      rw [List.take_length] at H hn
      replace hn' := Lib.hid hn
      have hN : Hid ((s.wait ++ s.mov.map (·.2.2)).length + s.back.length = n + s.back.length) := by show _ = _; rw [hn]
      clear hn
      have c1 : wr.cell? ⟨p, 1, none⟩ = some (.slice A s.back.length c) := H.out.at1.cellOf 1 rfl
      have hr : Hid (RdL (Enc.num .i64) wr (.slice A s.back.length c) s.back) := H.out.at2.ls_rd
      go_wp2_with (at_builtin; refine wpList_appendN (E := Enc.num .i64) (n + s.back.length) rfl (.tmp 27) (.tmp 31) 48 rfl 3 _ 1 8 Try.underlying48 info54 rfl (by decide) (by decide) rfl rfl _ rfl H.out hr.out (by omega) hN.out ?_)
      intro A5 cp5 w5 H5
      have c3 : w5.cell? ⟨p, 3, none⟩ = some (.pointer (some ⟨pr, 0, none⟩)) := H5.at1.cellOf 3 rfl
      clear c1 hr H
      replace H5 := Lib.hid H5
      go_wp2_with fail
      refine (ring_clear57 pr s.cr s.wait _ _ _ H5.out.at4).mono ?_
      rintro e w6 ⟨rfl, H6⟩
      clear c3 H5
      have H7 : Hs w0 w6 (Blk p (.cells #[.int .i64 s.cr, .slice A s.back.length c, .pointer (some ⟨pm, 0, none⟩), .pointer (some ⟨pr, 0, none⟩), .int .u64 s.out, .int .u64 s.inn, .int .i64 s.gr] 82 (0, 0)) :: Ls (Enc.num .i64) 3 (.slice A s.back.length c) s.back :: LinkI pm s.ep s.mov :: RingI pr s.cr [] :: Ls ((Enc.num .u64).pair ((Enc.num .u64).pair (Enc.num .i64))) 78 (.slice A2 s.mov.length cp2) s.mov :: Ls (Enc.num .i64) 3 (.slice A5 (n + s.back.length) cp5) s.rest :: R) := by
        have H : Hs w0 w6 _ := H6.at1.ls_eq (ys := s.rest) (by unfold Ch.rest; simp)
        (refine Hs.conseq H fun h s => ?_; refine Sep.pickc (by first | with_reducible exact s | with_reducible exact s.at1 | with_reducible exact s.at2 | with_reducible exact s.at3 | with_reducible exact s.at4 | with_reducible exact s.at5 | with_reducible exact s.at6 | with_reducible exact s.at7) (fun h s => ?_); refine Sep.pickc (by first | with_reducible exact s | with_reducible exact s.at1 | with_reducible exact s.at2 | with_reducible exact s.at3 | with_reducible exact s.at4 | with_reducible exact s.at5 | with_reducible exact s.at6 | with_reducible exact s.at7) (fun h s => ?_); refine Sep.pickc (by first | with_reducible exact s | with_reducible exact s.at1 | with_reducible exact s.at2 | with_reducible exact s.at3 | with_reducible exact s.at4 | with_reducible exact s.at5 | with_reducible exact s.at6 | with_reducible exact s.at7) (fun h s => ?_); refine Sep.pickc (by first | with_reducible exact s | with_reducible exact s.at1 | with_reducible exact s.at2 | with_reducible exact s.at3 | with_reducible exact s.at4 | with_reducible exact s.at5 | with_reducible exact s.at6 | with_reducible exact s.at7) (fun h s => ?_); refine Sep.pickc (by first | with_reducible exact s | with_reducible exact s.at1 | with_reducible exact s.at2 | with_reducible exact s.at3 | with_reducible exact s.at4 | with_reducible exact s.at5 | with_reducible exact s.at6 | with_reducible exact s.at7) (fun h s => ?_); refine Sep.pickc (by first | with_reducible exact s | with_reducible exact s.at1 | with_reducible exact s.at2 | with_reducible exact s.at3 | with_reducible exact s.at4 | with_reducible exact s.at5 | with_reducible exact s.at6 | with_reducible exact s.at7) (fun h s => ?_); exact s)
      clear H6
      have HE := ChanI.mk_ (s := { s with wait := [] }) H7.drew
      replace H7 := Lib.hid H7
      go_wp2_with fail
      have c2 : w6.cell? ⟨p, 2, none⟩ = some (.pointer (some ⟨pm, 0, none⟩)) := H7.out.cellOf 2 rfl
      go_still_tail 6, mixed
      still_call (still_same (chan_epoch23 p { s with wait := [] } _ w0 _ HE))
      repeat still_step
      refine wpStill_nil ?_
      change wpList _ _ _ _ _ w6.drew
      replace H7 := H7.out.drew
      clear c2 HE
      generalize w6.drew = w7 at *
      go_wp2_with (go_at_call 58; refine (link_kill58 pm s.ep s.ep s.mov _ w0 _ H7.at2).mono ?_)
      rintro e w8 rfl H8
      try rw [Int.max_self] at H8
      replace H8 := H8.at1
      clear H7
      have c1 := H8.cellOf 1 rfl
      have f1 := H8.frozenOf 1
      have c4 := H8.cellOf 4 rfl
      have f5 := H8.frozenOf 5
      have c5 := H8.cellOf 5 rfl
      go_wp2_with fail
      go_ret
      have H9 := (H8.setCell (i := 1) (.slice none 0 0)).setCell (i := 5) (.int .u64 s.out)
      refine ⟨_, _, _, rfl, ?_, ?_⟩
      · have h1 := hN.out
        rw [← h1]
        unfold Ch.rest
        simp
        omega
      · exact (ChanI.mk_ (s := s.drain) (v := .slice none 0 0) ((H9.at2.drop.at3.drop.ls_nil (Enc.num .i64) 3).at1)).at1
end Go.Proofs.Ytoiokmfdmpifiaa

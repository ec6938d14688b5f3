import Derived.Test.YtjdkpogkhecijaaFi
import Derived.IntWalk
import Derived.Test.YtjdkpogkhecijaaProg
import Derived.Test.YtjdkpogkhecijaaLs
import Derived.Outline
import Derived.StillTailTactics
import Derived.Deep.DeepCutAuto
import Derived.Deep.CutBlock
import Derived.Deep.LoopGhost
import Derived.Deep.QuietTactic
import Derived.BigQuiet
import Derived.Deep.RegionHeld3
import Derived.Deep.RegionLaw
set_option linter.unusedVariables false
set_option linter.unusedSimpArgs false
namespace Go.Proofs.Ytjdkpogkhecijaa
open Go.RowKit
theorem infoTh63 : (Try.prog.info? 9).map (fun i => (i.zero, i.size, i.bytes)) = some (some (.string ByteArray.empty), 1, 16) := by kernel_rfl
set_option maxRecDepth 100000 in
set_option maxHeartbeats 1600000 in
theorem things63 (p : Nat) (v0 : Value) (bs0 : List Int) (bad0 : Bool) (w w0 : World) (R : List HP) (H : Hs w0 w (Blk p (.cells #[v0, .bool bad0] 90) :: R)) (hr : ∀ w', Hs w0 w' R → RdL U8 w' v0 bs0) (hb : Byt bs0) :
    Calls Try.prog 63 #[.pointer (some ⟨p, 0, none⟩), .func (.func 64) #[] #[]] w (TPost (Enc.str) 9 v0 bs0 p w0 R (rdList rdFile (bs0, bad0)).1 (rdList rdFile (bs0, bad0)).2) := by
  have hr0 := Lib.hid hr
  have hb0 := Lib.hid hb
  have b1 := (good_num 2).byt (bs0, bad0) hb
  have hk := rnum_lt 2 (bs0, bad0) hb
  have hX0 : rdList rdFile (bs0, bad0) = thg rdFile (rnum 2 (bs0, bad0)).1.toNat (rnum 2 (bs0, bad0)).2 [] := rfl
  obtain ⟨⟨x, bs1, bad1⟩, hs1⟩ : ∃ x, rnum 2 (bs0, bad0) = x := ⟨_, rfl⟩
  rw [hs1] at b1 hk hX0
  obtain ⟨hk0, hk1⟩ := hk
  rw [show (256 : Int) ^ 2 = 65536 from rfl] at hk1
  dsimp only at b1 hk0 hk1 hX0
  obtain ⟨N, rfl⟩ := Int.eq_ofNat_of_zero_le hk0
  rw [Int.toNat_natCast] at hX0
  obtain ⟨X, hX⟩ : ∃ X, rdList rdFile (bs0, bad0) = X := ⟨_, rfl⟩
  rw [hX] at hX0 ⊢
  have hX1 : Hid (thg rdFile N (bs1, bad1) [] = X) := hX0.symm
  have K := Lib.hid H
  replace hs1 := Lib.hid hs1
  have hb1 := Lib.hid b1
  clear H hr hb b1 hX hX0
  go_enter Try.func63, Try.ntmps63
  go_wp2_with fail
  refine (number42 p v0 bs0 bad0 2 (by omega) w w0 R K.out hr0.out hb0.out).mono ?_
  rintro e w1 ⟨v1, rfl, hrd, K1⟩
  rw [hs1.out] at hrd K1 ⊢
  have hV := Lib.hid hrd
  have K2 := Lib.hid (K1.ls_nil (Enc.str) 9)
  clear hrd K K1
  go_wp2_with fail
  go_loopg [5, 9] N (fun g lv iv wr => ∃ (i : Nat) (A : Option Addr) (m c : Nat) (out : List (ByteArray)) (vi : Value) (bi : List Int) (di : Bool), g + i = N ∧ iv = .int .u64 i ∧ lv = .slice A m c ∧ m ≤ i ∧ Hid (out.length = m) ∧ Hid (thg rdFile (N - i) (bi, di) out = X) ∧ Hid (Byt bi) ∧ Hid (∀ W, RdL U8 W v0 bs0 → RdL U8 W vi bi) ∧
    Hid (Hs w0 wr (Ls (Enc.str) 9 (.slice A m c) out :: Blk p (.cells #[vi, .bool di] 90) :: R)))
  case atStart => exact ⟨0, none, 0, 0, [], v1, bs1, bad1, rfl, rfl, rfl, Nat.le_refl _, Lib.hid rfl, hX1, hb1, hV, K2⟩
  case round =>
    clear K2 hX1 hb1 hV
    obtain ⟨i, A, m, c, out, vi, bi, di, hg, rfl, rfl, hmi, hm, hXi, hbi, hVi, K⟩ := hrel
    have hiN : i ≤ N := by omega
    replace hg := Lib.hid hg
    rcases Nat.lt_or_ge i N with hlt | hlt
    · have hi1 : (i : Int) < (N : Int) := by omega
      have hwi : IntKind.u64.wrap ((i : Int) + 1) = ((i + 1 : Nat) : Int) := by rw [IntKind.wrap_u64]; omega
      have b2 := good_file.byt (bi, di) hbi.out
      have hstep : thg rdFile (N - i) (bi, di) out = if (rdFile (bi, di)).2.2 = true then ([], (rdFile (bi, di)).2) else thg rdFile (N - (i + 1)) (rdFile (bi, di)).2 (out ++ [(rdFile (bi, di)).1]) := by
        rw [show N - i = (N - (i + 1)) + 1 by omega]
        rfl
      rw [hXi.out] at hstep
      obtain ⟨⟨y, bj, dj⟩, hy⟩ : ∃ x, rdFile (bi, di) = x := ⟨_, rfl⟩
      rw [hy] at b2 hstep
      dsimp only at b2 hstep
      replace hy := Lib.hid hy
      have hst0 := Lib.hid hstep
      clear hstep
      have hbj := Lib.hid b2
      clear b2
      go_wp2_with fail
      refine (file64 p vi bi di wr w0 _ K.out.at1 (fun w' h => hVi.out w' (hr0.out w' h.tail)) hbi.out).mono ?_
      rw [hy.out]
      rintro e w5 ⟨vj, rfl, hrd, K5⟩
      have hVj : Hid (∀ W, RdL U8 W v0 bs0 → RdL U8 W vj bj) := fun W h => hrd W (hVi.out W h)
      have d1 : w5.cell? ⟨p, 1, none⟩ = some (.bool dj) := K5.cellOf 1 rfl
      replace K5 := Lib.hid K5
      clear hrd K
      cases dj with
      | true =>
        have hstep := hst0.out
        rw [if_pos rfl] at hstep
        subst hstep
        go_wp2_with fail
        go_ret
        exact ⟨none, 0, vj, rfl, hVj.out, K5.out.at1.tail.ls_nil _ _⟩
      | false =>
        have hstep := hst0.out
        rw [if_neg (by simp)] at hstep
        have hXj : Hid (thg rdFile (N - (i + 1)) (bj, false) (out ++ [y]) = X) := hstep.symm
        clear hstep hst0
        go_wp2_with (at_builtin; refine wpList_append1N (E := Enc.str) m hm.out rfl (.tmp 18) (.tmp 20) 60 rfl 9 _ 1 16 Try.underlying60 infoTh63 rfl (by decide) (by decide) rfl rfl rfl (by simp) K5.out.at1 y (by omega) ?_)
        intro A6 c6 w6 K6
        replace K6 := Lib.hid K6
        clear K5 d1
        go_wp2_with fail
        go_roundg (N - (i + 1))
        case measure => have := hg.out; omega
        case rel => exact ⟨i + 1, A6, m + 1, c6, out ++ [y], vj, bj, false, by have := hg.out; omega, by first | rfl | go_num | rw [hwi], rfl, by omega, by show _ = _; rw [List.length_append, hm.out]; rfl, hXj, hbj, hVj, K6⟩
    · have hi1 : decide ((i : Int) < (N : Int)) = false := by rw [decide_eq_false_iff_not]; omega
      have hi2 : decide (i < N) = false := by rw [decide_eq_false_iff_not]; omega
      have hfin : (out, ((bi, di) : Rst)) = X := by
        have := hXi.out
        rw [show N - i = 0 by omega] at this
        exact this
      subst hfin
      clear hlt
      go_wp2_with fail
      go_ret
      dsimp only
      exact ⟨A, c, vi, by rw [hm.out]; rfl, hVi.out, by rw [hm.out]; exact K.out⟩
end Go.Proofs.Ytjdkpogkhecijaa

import Derived.Test.YtlpcofjmleghdaaKn
import Derived.IntWalk
import Derived.Deep.CutRange
import Derived.Test.YtlpcofjmleghdaaProg
import Derived.Test.YtlpcofjmleghdaaLs
import Derived.Outline
import Derived.StillTailTactics
import Derived.Deep.DeepCutAuto
import Derived.Deep.CutBlock
import Derived.Deep.LoopGhost
import Derived.Deep.QuietTactic
import Derived.BigQuiet
import Derived.Deep.RegionHeld3
import Derived.Deep.RegionLaw
set_option linter.unusedVariables false
set_option linter.unusedSimpArgs false
namespace Go.Proofs.Ytlpcofjmleghdaa
open Go.RowKit
abbrev TI (p cap : Nat) (xs : List Int) : HP := Ty 65 (Value.int .i64) p cap xs
abbrev LI (A : Option Addr) (n c : Nat) (xs : List Int) : HP := Ls (Enc.num .i64) 3 (.slice A n c) xs
abbrev ESt : Enc (Int × Int) := (Enc.num .i64).pair (Enc.num .i64)
set_option maxRecDepth 100000 in
set_option maxHeartbeats 16000000 in
theorem tryplays_walk (a b : Int) (A0 : Option Addr) (N c0 : Nat) (l : List (Int × Int)) (W : World) (ha : (Lit.int .i64 a).wf = true) (hb : (Lit.int .i64 b).wf = true) (r1 : RdL ESt W (.slice A0 N c0) l) :
    Calls Try.prog 3 #[.int .i64 a, .int .i64 b, .slice A0 N c0] W fun e w' => e = .returned (.bool true) ∧ Below W.heap.size W w' := by
  have hN := r1.caps.1
  have hc1 := r1.caps.2
  have r10 := Lib.hid r1
  replace hN := Lib.hid hN
  have K := Lib.hid (Hs.start W)
  have place : ∀ x : Int, ∃ k : Nat, k < 20 ∧ ∀ w, Calls Try.prog 8 #[.int .i64 x, .int .i64 20] w fun e w' => e = .returned (.int .i64 k) ∧ w = w' := fun x => by
    have m0 := Int.emod_nonneg x (show (20 : Int) ≠ 0 by omega)
    have m1 := Int.emod_lt_of_pos x (show (0 : Int) < 20 by omega)
    have T := fun w => place8 x 20 w (by omega) (by omega)
    obtain ⟨k, hk⟩ := Int.eq_ofNat_of_zero_le m0
    rw [hk] at m1 T
    exact ⟨k, by omega, T⟩
  obtain ⟨ka, hka, TA⟩ := place a
  obtain ⟨kb, hkb, TB⟩ := place b
  obtain ⟨ca, hca⟩ : ∃ y, y = max ka 1 := ⟨_, rfl⟩
  obtain ⟨cb, hcb⟩ : ∃ y, y = max kb 1 := ⟨_, rfl⟩
  have TN1 : Hid (∀ w R, Hs W w R → Calls Try.prog 9 #[.int .i64 ka] w fun e w' => ∃ p, e = .returned (.pointer (some ⟨p, 0, none⟩)) ∧ Hs W w' (TI p ca [] :: R)) := fun w R H => by
    have := newtry9 (ka : Int) w W R H
    rw [show bnd (ka : Int) = ca by unfold bnd bndI; omega] at this
    exact this
  have TN2 : Hid (∀ w R, Hs W w R → Calls Try.prog 9 #[.int .i64 kb] w fun e w' => ∃ p, e = .returned (.pointer (some ⟨p, 0, none⟩)) ∧ Hs W w' (TI p cb [] :: R)) := fun w R H => by
    have := newtry9 (kb : Int) w W R H
    rw [show bnd (kb : Int) = cb by unfold bnd bndI; omega] at this
    exact this
  replace TA := Lib.hid TA
  replace TB := Lib.hid TB
  have ha2 : ca ≤ 20 := by omega
  have hb2 : cb ≤ 20 := by omega
  replace hca := Lib.hid hca
  replace hcb := Lib.hid hcb
  clear r1 place ha hb
  by_cases g1 : 500 < N
  · have e1 : decide ((500 : Int) < (N : Int)) = true := by rw [decide_eq_true_eq]; omega
    have e2 : decide (500 < N) = true := decide_eq_true g1
    clear TN1 TN2 TA TB g1 hca hcb
    go_enter Try.func3, Try.ntmps3
    go_wp2_with fail
    refine (known7 W W _ K.out).mono ?_
    rintro e w2 ⟨rfl, K2⟩
    replace K2 := Lib.hid K2
    go_wp2_with fail
    go_ret
    exact ⟨rfl, K2.out.under_old⟩
  have e1 : decide ((500 : Int) < (N : Int)) = false := by rw [decide_eq_false_iff_not]; omega
  have e2 : decide (500 < N) = false := decide_eq_false g1
  have b1 : N ≤ 500 := by omega
  clear g1
  go_enter Try.func3, Try.ntmps3
  go_wp2_with fail
  refine (known7 W W _ K.out).mono ?_
  rintro e w2 ⟨rfl, K2⟩
  replace K2 := Lib.hid K2
  clear K
  go_wp2_with fail
  refine (TA.out w2).mono ?_
  rintro e w2' ⟨rfl, rfl⟩
  go_wp2_with fail
  refine (TB.out w2).mono ?_
  rintro e w2' ⟨rfl, rfl⟩
  go_wp2_with fail
  refine (TN1.out w2 _ K2.out).mono ?_
  rintro e w3 ⟨s, rfl, K3⟩
  replace K3 := Lib.hid K3
  clear K2 TN1 TA TB e1 e2
  go_wp2_with fail
  refine (TN2.out w3 _ K3.out).mono ?_
  rintro e w4 ⟨t, rfl, K4⟩
  have K5 := Lib.hid (((K4.ls_nil (Enc.num .i64) 3).ls_nil (Enc.num .i64) 3).at2.at3.at3.at3)
  clear K3 K4 TN2
  go_wp2_with fail
  go_loopg [9, 10, 11] N (fun g pv qv iv wr => ∃ (i : Nat) (A : Option Addr) (m c : Nat) (us : List Int) (B : Option Addr) (n d : Nat) (vs : List Int), g + i = N ∧ iv = .int .i64 i ∧ pv = .slice A m c ∧ qv = .slice B n d ∧ m ≤ 20 ∧ n ≤ 20 ∧ Hid (us.length = m) ∧ Hid (vs.length = n) ∧ Hid (Hs W wr [LI A m c us, LI B n d vs, TI s ca us, TI t cb vs, Old W]))
  case atStart => exact ⟨0, none, 0, 0, [], none, 0, 0, [], rfl, rfl, rfl, rfl, by omega, by omega, Lib.hid rfl, Lib.hid rfl, K5⟩
  case round =>
    clear K5
    obtain ⟨i, A, m, c, us, B, n, d, vs, hg, rfl, rfl, rfl, hm, hn, hus, hvs, K⟩ := hrel
    have hiN : i ≤ N := by omega
    replace hg := Lib.hid hg
    rcases Nat.lt_or_ge i N with hlt | hlt
    · have hi0 : (0 : Int) ≤ (i : Int) := by omega
      have hi1 : (i : Int) < (N : Int) := by omega
      have hwi : IntKind.i64.wrap ((i : Int) + 1) = ((i + 1 : Nat) : Int) := by rw [IntWalk.i64_in _ (by omega)]; omega
      obtain ⟨⟨wt, x⟩, hx⟩ : ∃ x, l[i]? = some x := ⟨_, List.getElem?_eq_getElem (by have := hN.out; omega)⟩
      obtain ⟨g, off, rfl⟩ := (r10.out.old K.out.tail.tail.tail.tail).some_ (by have := hN.out; omega)
      have s0 : wr.cell? ⟨g, off + i * 2, none⟩ = some (.int .i64 wt) := (r10.out.old K.out.tail.tail.tail.tail).cell hx 0 rfl
      have s1 : wr.cell? ⟨g, off + i * 2 + 1, none⟩ = some (.int .i64 x) := (r10.out.old K.out.tail.tail.tail.tail).cell hx 1 rfl
      clear hx
      by_cases h0 : wt = 0
      · subst h0
        go_upto_region 26 with (fail)
        clear s0 s1
        go_cut [13] from 32 to 159 (fun bv wx => bv = .bool (decide (m < ca)) ∧ wx = wr)
        case first =>
          rcases Nat.eq_zero_or_pos ka with h0 | h0
          · rcases Nat.eq_zero_or_pos m with h1 | h1
            · have e3 : Hid (Value.bool true = .bool (decide (m < ca))) := by show _ = _; rw [decide_eq_true (by have := hca.out; omega)]
              subst h0
              subst h1
              go_wp2_with fail
              go_meet
              case rel => exact ⟨e3.out, rfl⟩
            · have e3 : Hid (Value.bool false = .bool (decide (m < ca))) := by show _ = _; rw [decide_eq_false (by have := hca.out; omega)]
              have e4 : decide ((m : Int) < 1) = false := by rw [decide_eq_false_iff_not]; omega
              have e5 : decide (m < 1) = false := by rw [decide_eq_false_iff_not]; omega
              have e6 : decide (m = 0) = false := by rw [decide_eq_false_iff_not]; omega
              have e7 : ¬ m = 0 := by omega
              subst h0
              go_wp2_with fail
              go_meet
              case rel => exact ⟨by first | exact e3.out | (congr 1; rw [decide_eq_decide]; have := hca.out; omega), rfl⟩
          · have f1 : (1 : Int) ≤ (ka : Int) := by omega
            have f2 : 1 ≤ ka := by omega
            have f3 : max (ka : Int) 1 = (ka : Int) := by omega
            have e4 : decide ((m : Int) < (ka : Int)) = decide (m < ka) := by rw [decide_eq_decide]; omega
            have e3 : Hid (Value.bool (decide (m < ka)) = .bool (decide (m < ca))) := by show _ = _; congr 1; rw [decide_eq_decide]; have := hca.out; omega
            go_wp2_with fail
            go_meet
            case rel => exact ⟨e3.out, rfl⟩
        case rest =>
          obtain ⟨rfl, hcw⟩ := hcut
          replace hcw := hcw.symm
          subst hcw
          have TS := Lib.hid (send10 s ca us x wr W _ K.out.at2)
          rw [hus.out] at TS
          by_cases hmc : m < ca
          · rw [decide_eq_true hmc, if_pos hmc] at TS
            rw [decide_eq_true hmc]
            go_wp2_with fail
            refine TS.out.mono ?_
            rintro e w5 ⟨rfl, K5⟩
            have K6 := Lib.hid (K5.at1)
            clear K K5 TS
            go_wp2_with (at_builtin; refine wpList_append1N (E := Enc.num .i64) m hus.out rfl (.tmp 105) (.tmp 107) 27 rfl 3 _ 1 8 Try.underlying27 infoR19 rfl (by decide) (by decide) rfl rfl rfl (by simp) K6.out x (by omega) ?_)
            intro A6 c6 w6 K7
            have K8 := Lib.hid (K7.at3.at2.at3.at3)
            clear K6 K7
            go_wp2_with fail
            go_roundg (N - (i + 1))
            case measure => have := hg.out; omega
            case rel => exact ⟨i + 1, A6, m + 1, c6, us ++ [x], B, n, d, vs, by have := hg.out; omega, by go_num, rfl, rfl, by omega, hn, Lib.hid (by rw [List.length_append, hus.out]; rfl), hvs, K8⟩
          · rw [decide_eq_false hmc, if_neg hmc] at TS
            rw [decide_eq_false hmc]
            go_wp2_with fail
            refine TS.out.mono ?_
            rintro e w5 ⟨rfl, K5⟩
            have K6 := Lib.hid (K5.at3.at1.at3.at3)
            clear K K5 TS
            go_wp2_with fail
            go_roundg (N - (i + 1))
            case measure => have := hg.out; omega
            case rel => exact ⟨i + 1, A, m, c, us, B, n, d, vs, by have := hg.out; omega, by go_num, rfl, rfl, hm, hn, hus, hvs, K6⟩
      by_cases h1 : wt = 1
      · subst h1
        go_upto_region 26 with (fail)
        clear s0 s1
        go_cut [13] from 32 to 159 (fun bv wx => bv = .bool (decide (m < ca)) ∧ wx = wr)
        case first =>
          rcases Nat.eq_zero_or_pos ka with h0 | h0
          · rcases Nat.eq_zero_or_pos m with h1 | h1
            · have e3 : Hid (Value.bool true = .bool (decide (m < ca))) := by show _ = _; rw [decide_eq_true (by have := hca.out; omega)]
              subst h0
              subst h1
              go_wp2_with fail
              go_meet
              case rel => exact ⟨e3.out, rfl⟩
            · have e3 : Hid (Value.bool false = .bool (decide (m < ca))) := by show _ = _; rw [decide_eq_false (by have := hca.out; omega)]
              have e4 : decide ((m : Int) < 1) = false := by rw [decide_eq_false_iff_not]; omega
              have e5 : decide (m < 1) = false := by rw [decide_eq_false_iff_not]; omega
              have e6 : decide (m = 0) = false := by rw [decide_eq_false_iff_not]; omega
              have e7 : ¬ m = 0 := by omega
              subst h0
              go_wp2_with fail
              go_meet
              case rel => exact ⟨by first | exact e3.out | (congr 1; rw [decide_eq_decide]; have := hca.out; omega), rfl⟩
          · have f1 : (1 : Int) ≤ (ka : Int) := by omega
            have f2 : 1 ≤ ka := by omega
            have f3 : max (ka : Int) 1 = (ka : Int) := by omega
            have e4 : decide ((m : Int) < (ka : Int)) = decide (m < ka) := by rw [decide_eq_decide]; omega
            have e3 : Hid (Value.bool (decide (m < ka)) = .bool (decide (m < ca))) := by show _ = _; congr 1; rw [decide_eq_decide]; have := hca.out; omega
            go_wp2_with fail
            go_meet
            case rel => exact ⟨e3.out, rfl⟩
        case rest =>
          obtain ⟨rfl, hcw⟩ := hcut
          replace hcw := hcw.symm
          subst hcw
          have TS := Lib.hid (send10 s ca us x wr W _ K.out.at2)
          rw [hus.out] at TS
          by_cases hmc : m < ca
          · rw [decide_eq_true hmc, if_pos hmc] at TS
            rw [decide_eq_true hmc]
            go_wp2_with fail
            refine TS.out.mono ?_
            rintro e w5 ⟨rfl, K5⟩
            have K6 := Lib.hid (K5.at1)
            clear K K5 TS
            go_wp2_with (at_builtin; refine wpList_append1N (E := Enc.num .i64) m hus.out rfl (.tmp 105) (.tmp 107) 27 rfl 3 _ 1 8 Try.underlying27 infoR19 rfl (by decide) (by decide) rfl rfl rfl (by simp) K6.out x (by omega) ?_)
            intro A6 c6 w6 K7
            have K8 := Lib.hid (K7.at3.at2.at3.at3)
            clear K6 K7
            go_wp2_with fail
            go_roundg (N - (i + 1))
            case measure => have := hg.out; omega
            case rel => exact ⟨i + 1, A6, m + 1, c6, us ++ [x], B, n, d, vs, by have := hg.out; omega, by go_num, rfl, rfl, by omega, hn, Lib.hid (by rw [List.length_append, hus.out]; rfl), hvs, K8⟩
          · rw [decide_eq_false hmc, if_neg hmc] at TS
            rw [decide_eq_false hmc]
            go_wp2_with fail
            refine TS.out.mono ?_
            rintro e w5 ⟨rfl, K5⟩
            have K6 := Lib.hid (K5.at3.at1.at3.at3)
            clear K K5 TS
            go_wp2_with fail
            go_roundg (N - (i + 1))
            case measure => have := hg.out; omega
            case rel => exact ⟨i + 1, A, m, c, us, B, n, d, vs, by have := hg.out; omega, by go_num, rfl, rfl, hm, hn, hus, hvs, K6⟩
      by_cases h2 : wt = 2
      · subst h2
        go_upto_region 33 with (fail)
        clear s0 s1
        go_cut [14] from 32 to 159 (fun bv wx => bv = .bool (decide (n < cb)) ∧ wx = wr)
        case first =>
          rcases Nat.eq_zero_or_pos kb with h0 | h0
          · rcases Nat.eq_zero_or_pos n with h1 | h1
            · have e3 : Hid (Value.bool true = .bool (decide (n < cb))) := by show _ = _; rw [decide_eq_true (by have := hcb.out; omega)]
              subst h0
              subst h1
              go_wp2_with fail
              go_meet
              case rel => exact ⟨e3.out, rfl⟩
            · have e3 : Hid (Value.bool false = .bool (decide (n < cb))) := by show _ = _; rw [decide_eq_false (by have := hcb.out; omega)]
              have e4 : decide ((n : Int) < 1) = false := by rw [decide_eq_false_iff_not]; omega
              have e5 : decide (n < 1) = false := by rw [decide_eq_false_iff_not]; omega
              have e6 : decide (n = 0) = false := by rw [decide_eq_false_iff_not]; omega
              have e7 : ¬ n = 0 := by omega
              subst h0
              go_wp2_with fail
              go_meet
              case rel => exact ⟨by first | exact e3.out | (congr 1; rw [decide_eq_decide]; have := hcb.out; omega), rfl⟩
          · have f1 : (1 : Int) ≤ (kb : Int) := by omega
            have f2 : 1 ≤ kb := by omega
            have f3 : max (kb : Int) 1 = (kb : Int) := by omega
            have e4 : decide ((n : Int) < (kb : Int)) = decide (n < kb) := by rw [decide_eq_decide]; omega
            have e3 : Hid (Value.bool (decide (n < kb)) = .bool (decide (n < cb))) := by show _ = _; congr 1; rw [decide_eq_decide]; have := hcb.out; omega
            go_wp2_with fail
            go_meet
            case rel => exact ⟨e3.out, rfl⟩
        case rest =>
          obtain ⟨rfl, hcw⟩ := hcut
          replace hcw := hcw.symm
          subst hcw
          have TS := Lib.hid (send10 t cb vs x wr W _ K.out.at3)
          rw [hvs.out] at TS
          by_cases hmc : n < cb
          · rw [decide_eq_true hmc, if_pos hmc] at TS
            rw [decide_eq_true hmc]
            go_wp2_with fail
            refine TS.out.mono ?_
            rintro e w5 ⟨rfl, K5⟩
            have K6 := Lib.hid (K5.at2)
            clear K K5 TS
            go_wp2_with (at_builtin; refine wpList_append1N (E := Enc.num .i64) n hvs.out rfl (.tmp 123) (.tmp 125) 27 rfl 3 _ 1 8 Try.underlying27 infoR19 rfl (by decide) (by decide) rfl rfl rfl (by simp) K6.out x (by omega) ?_)
            intro A6 c6 w6 K7
            have K8 := Lib.hid (K7.at1.at3.at2.at3)
            clear K6 K7
            go_wp2_with fail
            go_roundg (N - (i + 1))
            case measure => have := hg.out; omega
            case rel => exact ⟨i + 1, A, m, c, us, A6, n + 1, c6, vs ++ [x], by have := hg.out; omega, by go_num, rfl, rfl, hm, by omega, hus, Lib.hid (by rw [List.length_append, hvs.out]; rfl), K8⟩
          · rw [decide_eq_false hmc, if_neg hmc] at TS
            rw [decide_eq_false hmc]
            go_wp2_with fail
            refine TS.out.mono ?_
            rintro e w5 ⟨rfl, K5⟩
            have K6 := Lib.hid (K5.at3.at3.at3)
            clear K K5 TS
            go_wp2_with fail
            go_roundg (N - (i + 1))
            case measure => have := hg.out; omega
            case rel => exact ⟨i + 1, A, m, c, us, B, n, d, vs, by have := hg.out; omega, by go_num, rfl, rfl, hm, hn, hus, hvs, K6⟩
      by_cases h3 : wt = 3
      · subst h3
        go_upto_region 33 with (fail)
        clear s0 s1
        go_cut [14] from 32 to 159 (fun bv wx => bv = .bool (decide (n < cb)) ∧ wx = wr)
        case first =>
          rcases Nat.eq_zero_or_pos kb with h0 | h0
          · rcases Nat.eq_zero_or_pos n with h1 | h1
            · have e3 : Hid (Value.bool true = .bool (decide (n < cb))) := by show _ = _; rw [decide_eq_true (by have := hcb.out; omega)]
              subst h0
              subst h1
              go_wp2_with fail
              go_meet
              case rel => exact ⟨e3.out, rfl⟩
            · have e3 : Hid (Value.bool false = .bool (decide (n < cb))) := by show _ = _; rw [decide_eq_false (by have := hcb.out; omega)]
              have e4 : decide ((n : Int) < 1) = false := by rw [decide_eq_false_iff_not]; omega
              have e5 : decide (n < 1) = false := by rw [decide_eq_false_iff_not]; omega
              have e6 : decide (n = 0) = false := by rw [decide_eq_false_iff_not]; omega
              have e7 : ¬ n = 0 := by omega
              subst h0
              go_wp2_with fail
              go_meet
              case rel => exact ⟨by first | exact e3.out | (congr 1; rw [decide_eq_decide]; have := hcb.out; omega), rfl⟩
          · have f1 : (1 : Int) ≤ (kb : Int) := by omega
            have f2 : 1 ≤ kb := by omega
            have f3 : max (kb : Int) 1 = (kb : Int) := by omega
            have e4 : decide ((n : Int) < (kb : Int)) = decide (n < kb) := by rw [decide_eq_decide]; omega
            have e3 : Hid (Value.bool (decide (n < kb)) = .bool (decide (n < cb))) := by show _ = _; congr 1; rw [decide_eq_decide]; have := hcb.out; omega
            go_wp2_with fail
            go_meet
            case rel => exact ⟨e3.out, rfl⟩
        case rest =>
          obtain ⟨rfl, hcw⟩ := hcut
          replace hcw := hcw.symm
          subst hcw
          have TS := Lib.hid (send10 t cb vs x wr W _ K.out.at3)
          rw [hvs.out] at TS
          by_cases hmc : n < cb
          · rw [decide_eq_true hmc, if_pos hmc] at TS
            rw [decide_eq_true hmc]
            go_wp2_with fail
            refine TS.out.mono ?_
            rintro e w5 ⟨rfl, K5⟩
            have K6 := Lib.hid (K5.at2)
            clear K K5 TS
            go_wp2_with (at_builtin; refine wpList_append1N (E := Enc.num .i64) n hvs.out rfl (.tmp 123) (.tmp 125) 27 rfl 3 _ 1 8 Try.underlying27 infoR19 rfl (by decide) (by decide) rfl rfl rfl (by simp) K6.out x (by omega) ?_)
            intro A6 c6 w6 K7
            have K8 := Lib.hid (K7.at1.at3.at2.at3)
            clear K6 K7
            go_wp2_with fail
            go_roundg (N - (i + 1))
            case measure => have := hg.out; omega
            case rel => exact ⟨i + 1, A, m, c, us, A6, n + 1, c6, vs ++ [x], by have := hg.out; omega, by go_num, rfl, rfl, hm, by omega, hus, Lib.hid (by rw [List.length_append, hvs.out]; rfl), K8⟩
          · rw [decide_eq_false hmc, if_neg hmc] at TS
            rw [decide_eq_false hmc]
            go_wp2_with fail
            refine TS.out.mono ?_
            rintro e w5 ⟨rfl, K5⟩
            have K6 := Lib.hid (K5.at3.at3.at3)
            clear K K5 TS
            go_wp2_with fail
            go_roundg (N - (i + 1))
            case measure => have := hg.out; omega
            case rel => exact ⟨i + 1, A, m, c, us, B, n, d, vs, by have := hg.out; omega, by go_num, rfl, rfl, hm, hn, hus, hvs, K6⟩
      by_cases h4 : wt = 4
      · subst h4
        cases us with
        | nil =>
          obtain rfl : m = 0 := by have := hus.out; exact this.symm
          have TR := Lib.hid (recvN11 s ca wr W _ K.out.at2)
          go_upto_region 39 with (fail)
          clear s0 s1
          go_wp2_with fail
          refine TR.out.mono ?_
          rintro e w5 ⟨rfl, K5⟩
          have K6 := Lib.hid (K5.at3.at1.at3.at3)
          clear K K5 TR
          go_wp2_with fail
          go_roundg (N - (i + 1))
          case measure => have := hg.out; omega
          case rel => exact ⟨i + 1, A, 0, c, [], B, n, d, vs, by have := hg.out; omega, by go_num, rfl, rfl, by omega, hn, hus, hvs, K6⟩
        | cons y us =>
          obtain ⟨m1, rfl⟩ : ∃ y, m = y + 1 := ⟨m - 1, by have := hus.out; rw [List.length_cons] at this; omega⟩
          obtain ⟨gp, po, rfl⟩ := K.out.ls_rd.some_ (by rw [List.length_cons]; omega)
          have q0 : wr.cell? ⟨gp, po, none⟩ = some (.int .i64 y) := by have := K.out.ls_rd.cell (i := 0) (x := y) rfl 0 rfl; simpa [Enc.num] using this
          obtain ⟨A2, hA2, hcut2⟩ := cut_tail Try.prog 27 3 1 Try.underlying27 (by kernel_rfl) (some ⟨gp, po, none⟩) m1 c
          have z1 : decide ((0 : Int) < ((m1 + 1 : Nat) : Int)) = true := by rw [decide_eq_true_eq]; omega
          have z2 : decide ((0 : Int) < (m1 : Int) + 1) = true := by rw [decide_eq_true_eq]; omega
          have z3 : decide (0 < m1 + 1) = true := by rw [decide_eq_true_eq]; omega
          have z4 : (0 : Int) < ((m1 + 1 : Nat) : Int) := by omega
          have z5 : (0 : Int) < (m1 : Int) + 1 := by omega
          have TR := Lib.hid (recvC11 s ca y us wr W _ K.out.at2)
          go_upto_region 39 with (fail)
          clear s0 s1
          go_wp2_with fail
          refine TR.out.mono ?_
          rintro e w5 ⟨rfl, K5⟩
          have q1 : w5.cell? ⟨gp, po, none⟩ = some (.int .i64 y) := by have := K5.at1.ls_rd.cell (i := 0) (x := y) rfl 0 rfl; simpa [Enc.num] using this
          have K6 := Lib.hid ((K5.at3.at1.at3.at3).ls_tail (n := m1 + 1) (m := m1) rfl rfl hA2)
          clear K K5 TR q0 hA2
          go_wp2_with fail
          go_roundg (N - (i + 1))
          case measure => have := hg.out; omega
          case rel => exact ⟨i + 1, A2, m1, _, us, B, n, d, vs, by have := hg.out; omega, by go_num, rfl, rfl, by omega, hn, Lib.hid (by have := hus.out; rw [List.length_cons] at this; omega), hvs, K6⟩
      have w0_ : (wt == 0) = false := beq_eq_false_iff_ne.2 h0
      have w1_ : (wt == 1) = false := beq_eq_false_iff_ne.2 h1
      have w2_ : (wt == 2) = false := beq_eq_false_iff_ne.2 h2
      have w3_ : (wt == 3) = false := beq_eq_false_iff_ne.2 h3
      have w4_ : (wt == 4) = false := beq_eq_false_iff_ne.2 h4
      clear h0 h1 h2 h3 h4
      cases us with
      | cons y us =>
        obtain ⟨m1, rfl⟩ : ∃ y, m = y + 1 := ⟨m - 1, by have := hus.out; rw [List.length_cons] at this; omega⟩
        obtain ⟨gp, po, rfl⟩ := K.out.ls_rd.some_ (by rw [List.length_cons]; omega)
        have q0 : wr.cell? ⟨gp, po, none⟩ = some (.int .i64 y) := by have := K.out.ls_rd.cell (i := 0) (x := y) rfl 0 rfl; simpa [Enc.num] using this
        obtain ⟨A2, hA2, hcut2⟩ := cut_tail Try.prog 27 3 1 Try.underlying27 (by kernel_rfl) (some ⟨gp, po, none⟩) m1 c
        have z1 : decide ((0 : Int) < ((m1 + 1 : Nat) : Int)) = true := by rw [decide_eq_true_eq]; omega
        have z2 : decide ((0 : Int) < (m1 : Int) + 1) = true := by rw [decide_eq_true_eq]; omega
        have z3 : decide (0 < m1 + 1) = true := by rw [decide_eq_true_eq]; omega
        have z4 : (0 : Int) < ((m1 + 1 : Nat) : Int) := by omega
        have z5 : (0 : Int) < (m1 : Int) + 1 := by omega
        have TE := Lib.hid (eitherA12 s t ca cb y us vs wr W _ K.out.at1.at1.at3.at3)
        go_upto_region 13 with (fail)
        clear s0 s1
        go_wp2_with fail
        refine TE.out.mono ?_
        rintro e w5 ⟨rfl, K5⟩
        have q1 : w5.cell? ⟨gp, po, none⟩ = some (.int .i64 y) := by have := K5.at2.ls_rd.cell (i := 0) (x := y) rfl 0 rfl; simpa [Enc.num] using this
        have K6 := Lib.hid ((K5.at1.at1.at3.at3).ls_tail (n := m1 + 1) (m := m1) rfl rfl hA2)
        clear K K5 TE q0 hA2
        go_wp2_with fail
        go_roundg (N - (i + 1))
        case measure => have := hg.out; omega
        case rel => exact ⟨i + 1, A2, m1, _, us, B, n, d, vs, by have := hg.out; omega, by go_num, rfl, rfl, by omega, hn, Lib.hid (by have := hus.out; rw [List.length_cons] at this; omega), hvs, K6⟩
      | nil =>
        obtain rfl : m = 0 := by have := hus.out; exact this.symm
        cases vs with
        | cons y vs =>
          obtain ⟨m1, rfl⟩ : ∃ y, n = y + 1 := ⟨n - 1, by have := hvs.out; rw [List.length_cons] at this; omega⟩
          obtain ⟨gp, po, rfl⟩ := K.out.at1.ls_rd.some_ (by rw [List.length_cons]; omega)
          have q0 : wr.cell? ⟨gp, po, none⟩ = some (.int .i64 y) := by have := K.out.at1.ls_rd.cell (i := 0) (x := y) rfl 0 rfl; simpa [Enc.num] using this
          obtain ⟨A2, hA2, hcut2⟩ := cut_tail Try.prog 27 3 1 Try.underlying27 (by kernel_rfl) (some ⟨gp, po, none⟩) m1 d
          have z1 : decide ((0 : Int) < ((m1 + 1 : Nat) : Int)) = true := by rw [decide_eq_true_eq]; omega
          have z2 : decide ((0 : Int) < (m1 : Int) + 1) = true := by rw [decide_eq_true_eq]; omega
          have z3 : decide (0 < m1 + 1) = true := by rw [decide_eq_true_eq]; omega
          have z4 : (0 : Int) < ((m1 + 1 : Nat) : Int) := by omega
          have z5 : (0 : Int) < (m1 : Int) + 1 := by omega
          have TE := Lib.hid (eitherB12 s t ca cb y vs wr W _ K.out.at1.at1.at3.at3)
          go_upto_region 13 with (fail)
          clear s0 s1
          go_wp2_with fail
          refine TE.out.mono ?_
          rintro e w5 ⟨rfl, K5⟩
          have q1 : w5.cell? ⟨gp, po, none⟩ = some (.int .i64 y) := by have := K5.at3.ls_rd.cell (i := 0) (x := y) rfl 0 rfl; simpa [Enc.num] using this
          have K6 := Lib.hid ((K5.at1.at1.at2.at3).ls_tail (n := m1 + 1) (m := m1) rfl rfl hA2)
          clear K K5 TE q0 hA2
          go_wp2_with fail
          go_roundg (N - (i + 1))
          case measure => have := hg.out; omega
          case rel => exact ⟨i + 1, A, 0, c, [], A2, m1, _, vs, by have := hg.out; omega, by go_num, rfl, rfl, by omega, by omega, hus, Lib.hid (by have := hvs.out; rw [List.length_cons] at this; omega), Lib.hid K6.out.at1⟩
        | nil =>
          obtain rfl : n = 0 := by have := hvs.out; exact this.symm
          have TE := Lib.hid (eitherN12 s t ca cb wr W _ K.out.at1.at1.at3.at3)
          go_upto_region 13 with (fail)
          clear s0 s1
          go_wp2_with fail
          refine TE.out.mono ?_
          rintro e w5 ⟨rfl, K5⟩
          have K6 := Lib.hid (K5.at1.at1.at3.at3)
          clear K K5 TE
          go_wp2_with fail
          go_roundg (N - (i + 1))
          case measure => have := hg.out; omega
          case rel => exact ⟨i + 1, A, 0, c, [], B, 0, d, [], by have := hg.out; omega, by go_num, rfl, rfl, by omega, by omega, hus, hvs, K6⟩
    · have hi1 : decide ((i : Int) < (N : Int)) = false := by rw [decide_eq_false_iff_not]; omega
      have hi2 : decide (i < N) = false := by rw [decide_eq_false_iff_not]; omega
      clear hlt
      go_wp2_with fail
      go_ret
      exact ⟨rfl, K.out.tail.tail.tail.tail.under_old⟩
theorem tryplays_walk2 (a b : Int) (A0 : Option Addr) (N c0 : Nat) (l : List (Int × Int)) (W : World) (ha : (Lit.int .i64 a).wf = true) (hb : (Lit.int .i64 b).wf = true) (r1 : RdL ESt W (.slice A0 N c0) l) (_ : ∀ x ∈ l, (Lit.int .i64 x.1).wf = true ∧ (Lit.int .i64 x.2).wf = true) :
    Calls Try.prog 3 #[.int .i64 a, .int .i64 b, .slice A0 N c0] W fun e w' => e = .returned (.bool true) ∧ Below W.heap.size W w' := tryplays_walk a b A0 N c0 l W ha hb r1
end Go.Proofs.Ytlpcofjmleghdaa

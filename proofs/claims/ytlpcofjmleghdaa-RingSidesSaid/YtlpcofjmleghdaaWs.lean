import Derived.Test.YtlpcofjmleghdaaKn
import Derived.IntWalk
import Derived.Test.YtlpcofjmleghdaaProg
import Derived.Test.YtlpcofjmleghdaaLs
import Derived.Outline
import Derived.StillTailTactics
import Derived.Deep.DeepCutAuto
import Derived.Deep.CutBlock
import Derived.Deep.LoopGhost
import Derived.Deep.QuietTactic
import Derived.BigQuiet
import Derived.Deep.RegionHeld3
import Derived.Deep.RegionLaw
set_option linter.unusedVariables false
set_option linter.unusedSimpArgs false
namespace Go.Proofs.Ytlpcofjmleghdaa
open Go.RowKit
abbrev RS (p most : Nat) (xs : List ByteArray) : HP := Rg Enc.str 9 67 p most xs
set_option maxRecDepth 100000 in
set_option maxHeartbeats 8000000 in
theorem ringsides_walk (pl : Int) (A1 : Option Addr) (n1 c1 : Nat) (fs : List ByteArray) (A2 : Option Addr) (n2 c2 : Nat) (bs : List ByteArray) (W : World) (hpl : (Lit.int .i64 pl).wf = true) (r1 : RdL Enc.str W (.slice A1 n1 c1) fs) (r2 : RdL Enc.str W (.slice A2 n2 c2) bs) :
    Calls Try.prog 4 #[.int .i64 pl, .slice A1 n1 c1, .slice A2 n2 c2] W fun e w' => e = .returned (.bool true) ∧ Below W.heap.size W w' := by
  have hn1 := r1.caps.1
  have hn2 := r2.caps.1
  have hc1 := r1.caps.2
  have hc2 := r2.caps.2
  have r10 := Lib.hid r1
  have r20 := Lib.hid r2
  replace hn1 := Lib.hid hn1
  replace hn2 := Lib.hid hn2
  have K := Lib.hid (Hs.start W)
  have m0 := Int.emod_nonneg pl (show (100 : Int) ≠ 0 by omega)
  have m1 := Int.emod_lt_of_pos pl (show (0 : Int) < 100 by omega)
  have TP : Hid (∀ w, Calls Try.prog 8 #[.int .i64 pl, .int .i64 100] w fun e w' => e = .returned (.int .i64 (pl % 100)) ∧ w = w') := fun w => place8 pl 100 w (by omega) (by omega)
  obtain ⟨k, hk⟩ := Int.eq_ofNat_of_zero_le m0
  rw [hk] at TP m1
  have hk2 : k < 100 := by omega
  obtain ⟨M, hM⟩ : ∃ M, M = 1 + k := ⟨_, rfl⟩
  have hwM : IntKind.i64.wrap (1 + (k : Int)) = (M : Int) := by rw [IntWalk.i64_in _ (by omega)]; omega
  have hM1 : 1 ≤ M := by omega
  have hM2 : M ≤ 100 := by omega
  have hbM : bnd (M : Int) = M := by unfold bnd bndI; omega
  have TN : Hid (∀ w R, Hs W w R → Calls Try.prog 13 #[.int .i64 M] w fun e w' => ∃ p, e = .returned (.pointer (some ⟨p, 0, none⟩)) ∧ Hs W w' (RS p M [] :: R)) := fun w R H => by have := new13 (M : Int) w W R H; rw [hbM] at this; exact this
  clear r1 r2 hk m0 m1 hbM hM
  by_cases g1 : 40 < n1
  · have e1 : decide ((40 : Int) < (n1 : Int)) = true := by rw [decide_eq_true_eq]; omega
    have e2 : decide (40 < n1) = true := decide_eq_true g1
    clear TN TP g1
    go_enter Try.func4, Try.ntmps4
    go_wp2_with fail
    refine (known7 W W _ K.out).mono ?_
    rintro e w2 ⟨rfl, K2⟩
    replace K2 := Lib.hid K2
    go_wp2_with fail
    go_ret
    exact ⟨rfl, K2.out.under_old⟩
  have e1 : decide ((40 : Int) < (n1 : Int)) = false := by rw [decide_eq_false_iff_not]; omega
  have e2 : decide (40 < n1) = false := decide_eq_false g1
  by_cases g2 : 40 < n2
  · have e3 : decide ((40 : Int) < (n2 : Int)) = true := by rw [decide_eq_true_eq]; omega
    have e4 : decide (40 < n2) = true := decide_eq_true g2
    clear TN TP g1 g2
    go_enter Try.func4, Try.ntmps4
    go_wp2_with fail
    refine (known7 W W _ K.out).mono ?_
    rintro e w2 ⟨rfl, K2⟩
    replace K2 := Lib.hid K2
    go_wp2_with fail
    go_ret
    exact ⟨rfl, K2.out.under_old⟩
  have e3 : decide ((40 : Int) < (n2 : Int)) = false := by rw [decide_eq_false_iff_not]; omega
  have e4 : decide (40 < n2) = false := decide_eq_false g2
  have b1 : n1 ≤ 40 := by omega
  have b2 : n2 ≤ 40 := by omega
  clear g1 g2
  go_enter Try.func4, Try.ntmps4
  go_wp2_with fail
  refine (known7 W W _ K.out).mono ?_
  rintro e w2 ⟨rfl, K2⟩
  replace K2 := Lib.hid K2
  clear K
  go_wp2_with fail
  refine (TP.out w2).mono ?_
  rintro e w2' ⟨rfl, rfl⟩
  go_wp2_with fail
  refine (TN.out w2 _ K2.out).mono ?_
  rintro e w3 ⟨p, rfl, K3⟩
  have K4 := Lib.hid (K3.ls_nil Enc.str 9)
  clear K2 K3 TN TP e1 e2 e3 e4 hwM
  go_wp2_with fail
  go_loopg [8, 9] n2 (fun g lv iv wr => ∃ (i : Nat) (A : Option Addr) (m c : Nat) (cur : List ByteArray), g + i = n2 ∧ iv = .int .i64 i ∧ lv = .slice A m c ∧ m = min i M ∧ Hid (cur.length = m) ∧ Hid (Hs W wr [Ls Enc.str 9 (.slice A m c) cur, RS p M cur, Old W]))
  case atStart => exact ⟨0, none, 0, 0, [], rfl, rfl, rfl, by omega, Lib.hid rfl, K4⟩
  case round =>
    clear K4
    obtain ⟨i, A, m, c, cur, hg, rfl, rfl, hm, hcl, K⟩ := hrel
    have hiN : i ≤ n2 := by omega
    replace hg := Lib.hid hg
    rcases Nat.lt_or_ge i n2 with hlt | hlt
    · have hi0 : (0 : Int) ≤ (i : Int) := by omega
      have hi1 : (i : Int) < (n2 : Int) := by omega
      have hwi : IntKind.i64.wrap ((i : Int) + 1) = ((i + 1 : Nat) : Int) := by rw [IntWalk.i64_in _ (by omega)]; omega
      obtain ⟨x, hx⟩ : ∃ x, bs[i]? = some x := ⟨_, List.getElem?_eq_getElem (by have := hn2.out; omega)⟩
      obtain ⟨g, off, rfl⟩ := (r20.out.old K.out.at2).some_ (by have := hn2.out; omega)
      have s0 : wr.cell? ⟨g, off + i, none⟩ = some (.string x) := by have := (r20.out.old K.out.at2).cell hx 0 rfl; simpa [Enc.str] using this
      have so : W.cell? ⟨g, off + i, none⟩ = some (.string x) := by have := r20.out.cell hx 0 rfl; simpa [Enc.str] using this
      have TPut := Lib.hid (put14 p M cur x wr W _ K.out.at1 (by have := hcl.out; omega))
      rw [hcl.out] at TPut
      clear hx
      by_cases hiM : i < M
      · have hmM : m < M := by omega
        rw [decide_eq_true hmM, if_pos hmM] at TPut
        have d1 : decide ((i : Int) < (M : Int)) = true := by rw [decide_eq_true_eq]; omega
        have d2 : decide (i < M) = true := decide_eq_true hiM
        have hm1 := Lib.hid (show m + 1 = min (i + 1) M by omega)
        clear hm
        go_wp2_with fail
        refine TPut.out.mono ?_
        rintro e w5 ⟨rfl, K5⟩
        have s1 : w5.cell? ⟨g, off + i, none⟩ = some (.string x) := K5.at2.old_cell so
        replace K5 := Lib.hid K5
        clear K s0 TPut
        go_wp2_with (at_builtin; refine wpList_append1N (E := Enc.str) m hcl.out rfl (.tmp 52) (.tmp 57) 36 rfl 9 _ 1 16 Try.underlying36 infoR13 rfl (by decide) (by decide) rfl rfl rfl (by simp) K5.out.at1 x (by omega) ?_)
        intro A6 c6 w6 K6
        replace K6 := Lib.hid K6
        clear K5 s1
        go_wp2_with fail
        go_roundg (n2 - (i + 1))
        case measure => have := hg.out; omega
        case rel => exact ⟨i + 1, A6, m + 1, c6, cur ++ [x], by have := hg.out; omega, by go_num, rfl, hm1.out, Lib.hid (by rw [List.length_append, hcl.out]; rfl), K6⟩
      · have hmM : ¬ m < M := by omega
        rw [decide_eq_false hmM, if_neg hmM] at TPut
        have d1 : decide ((i : Int) < (M : Int)) = false := by rw [decide_eq_false_iff_not]; omega
        have d2 : decide (i < M) = false := decide_eq_false hiM
        have hm1 := Lib.hid (show m = min (i + 1) M by omega)
        clear hm
        go_wp2_with fail
        refine TPut.out.mono ?_
        rintro e w5 ⟨rfl, K5⟩
        replace K5 := Lib.hid K5
        clear K s0 TPut
        go_wp2_with fail
        go_roundg (n2 - (i + 1))
        case measure => have := hg.out; omega
        case rel => exact ⟨i + 1, A, m, c, cur, by have := hg.out; omega, by go_num, rfl, hm1.out, hcl, Lib.hid K5.out.at1⟩
    · have hi1 : decide ((i : Int) < (n2 : Int)) = false := by rw [decide_eq_false_iff_not]; omega
      have hi2 : decide (i < n2) = false := by rw [decide_eq_false_iff_not]; omega
      have hm3 : m ≤ 200 := by omega
      clear hlt hm hg hiN
      go_wp2_with fail
      clear hi1 hi2
      go_loopg [8, 10] n1 (fun g lv iv wr => ∃ (i : Nat) (A : Option Addr) (m c : Nat) (cur : List ByteArray), g + i = n1 ∧ iv = .int .i64 i ∧ lv = .slice A m c ∧ m ≤ 200 ∧ Hid (cur.length = m) ∧ Hid (Hs W wr [Ls Enc.str 9 (.slice A m c) cur, RS p M cur, Old W]))
      case atStart => exact ⟨0, A, m, c, cur, rfl, rfl, rfl, hm3, hcl, K⟩
      case round =>
        clear K hcl hm3
        obtain ⟨i, A, m, c, cur, hg, rfl, rfl, hm, hcl, K⟩ := hrel
        have hiN : i ≤ n1 := by omega
        replace hg := Lib.hid hg
        rcases Nat.lt_or_ge i n1 with hlt | hlt
        · have hi0 : (0 : Int) ≤ (i : Int) := by omega
          have hi1 : (i : Int) < (n1 : Int) := by omega
          have hwi : IntKind.i64.wrap ((i : Int) + 1) = ((i + 1 : Nat) : Int) := by rw [IntWalk.i64_in _ (by omega)]; omega
          obtain ⟨x, hx⟩ : ∃ x, fs[i]? = some x := ⟨_, List.getElem?_eq_getElem (by have := hn1.out; omega)⟩
          obtain ⟨g, off, rfl⟩ := (r10.out.old K.out.at2).some_ (by have := hn1.out; omega)
          have s0 : wr.cell? ⟨g, off + i, none⟩ = some (.string x) := by have := (r10.out.old K.out.at2).cell hx 0 rfl; simpa [Enc.str] using this
          have so : W.cell? ⟨g, off + i, none⟩ = some (.string x) := by have := r10.out.cell hx 0 rfl; simpa [Enc.str] using this
          have TF := Lib.hid (front15 p M cur x wr W _ K.out.at1 (by have := hcl.out; omega) (by omega))
          rw [hcl.out] at TF
          obtain ⟨m2, hm2⟩ : ∃ y, 2 * M = y := ⟨_, rfl⟩
          rw [hm2] at TF
          have hw2 : IntKind.i64.wrap (2 * (M : Int)) = (m2 : Int) := by rw [IntWalk.i64_in _ (by omega)]; omega
          clear hx
          by_cases hmM : m < m2
          · rw [decide_eq_true hmM, if_pos hmM] at TF
            have d1 : decide ((m : Int) < (m2 : Int)) = true := by rw [decide_eq_true_eq]; omega
            have d2 : decide (m < m2) = true := decide_eq_true hmM
            have hm1 : 1 + m ≤ 200 := by omega
            clear hm hm2
            go_wp2_with fail
            refine TF.out.mono ?_
            rintro e w5 ⟨rfl, K5⟩
            have s1 : w5.cell? ⟨g, off + i, none⟩ = some (.string x) := K5.at2.old_cell so
            have K6 := K5.alloc (.cells #[.string x] 9)
            have K7 := Lib.hid (Hs.ls_shut (E := Enc.str) (off := 0) (n := 1) (c := 1) (xs := [x]) K6 rfl (by omega) (by unfold maxLen; omega) (by show 0 + 1 * 1 ≤ 1; omega) (fun j u hu => by rw [Nat.zero_add]; simpa [flat, Enc.str] using hu))
            clear K s0 TF K5 K6
            go_wp2_with (at_builtin; refine wpList_appendN (E := Enc.str) (1 + m) rfl (.tmp 83) (.tmp 84) 36 rfl 9 _ 1 16 Try.underlying36 infoR13 rfl (by decide) (by decide) rfl rfl _ rfl K7.out K7.out.at2.ls_rd (by omega) (by rw [hcl.out]; rfl) ?_)
            intro A6 c6 w6 K8
            have K9 := Lib.hid (show Hs W w6 [Ls Enc.str 9 (.slice A6 (1 + m) c6) (x :: cur), RS p M (x :: cur), Old W] from K8.at2.tail)
            clear K7 s1
            go_wp2_with fail
            go_roundg (n1 - (i + 1))
            case measure => have := hg.out; omega
            case rel => exact ⟨i + 1, A6, 1 + m, c6, x :: cur, by have := hg.out; omega, by go_num, rfl, hm1, Lib.hid (by rw [List.length_cons, hcl.out]; omega), K9⟩
          · rw [decide_eq_false hmM, if_neg hmM] at TF
            have d1 : decide ((m : Int) < (m2 : Int)) = false := by rw [decide_eq_false_iff_not]; omega
            have d2 : decide (m < m2) = false := decide_eq_false hmM
            clear hm2
            go_wp2_with fail
            refine TF.out.mono ?_
            rintro e w5 ⟨rfl, K5⟩
            replace K5 := Lib.hid K5
            clear K s0 TF
            go_wp2_with fail
            go_roundg (n1 - (i + 1))
            case measure => have := hg.out; omega
            case rel => exact ⟨i + 1, A, m, c, cur, by have := hg.out; omega, by go_num, rfl, hm, hcl, Lib.hid K5.out.at1⟩
        · have hi1 : decide ((i : Int) < (n1 : Int)) = false := by rw [decide_eq_false_iff_not]; omega
          have hi2 : decide (i < n1) = false := by rw [decide_eq_false_iff_not]; omega
          clear hlt hg hiN
          go_wp2_with fail
          clear hi1 hi2
          go_loopg [12] m (fun g iv wr => ∃ i : Nat, g + i = m ∧ iv = .int .i64 i ∧ Hid (Hs W wr [Ls Enc.str 9 (.slice A m c) cur, RS p M cur, Old W]))
          case atStart => exact ⟨0, rfl, rfl, K⟩
          case round =>
            clear K
            obtain ⟨i, hg, rfl, K⟩ := hrel
            have hiN : i ≤ m := by omega
            replace hg := Lib.hid hg
            rcases Nat.lt_or_ge i m with hlt | hlt
            · have hi1 : (i : Int) < (m : Int) := by omega
              have hwi : IntKind.i64.wrap ((i : Int) + 1) = ((i + 1 : Nat) : Int) := by rw [IntWalk.i64_in _ (by omega)]; omega
              obtain ⟨j, hj⟩ : ∃ j, j = m - 1 - i := ⟨_, rfl⟩
              have hw1 : IntKind.i64.wrap ((m : Int) - 1) = ((m - 1 : Nat) : Int) := by rw [IntWalk.i64_in _ (by omega)]; omega
              have hw2 : IntKind.i64.wrap (((m - 1 : Nat) : Int) - (i : Int)) = (j : Int) := by rw [IntWalk.i64_in _ (by omega)]; omega
              have hw3 : IntKind.i64.wrap ((m : Int) - 1 - (i : Int)) = (j : Int) := by rw [IntWalk.i64_in _ (by omega)]; omega
              have hj0 : (0 : Int) ≤ (j : Int) := by omega
              have hj1 : (j : Int) < (m : Int) := by omega
              obtain ⟨x, hx⟩ : ∃ x, cur[j]? = some x := ⟨_, List.getElem?_eq_getElem (by have := hcl.out; omega)⟩
              obtain ⟨g, off, rfl⟩ := K.out.ls_rd.some_ (by have := hcl.out; omega)
              have s0 : wr.cell? ⟨g, off + j, none⟩ = some (.string x) := by have := K.out.ls_rd.cell hx 0 rfl; simpa [Enc.str] using this
              have TK := Lib.hid (peekIn16 p M cur j x hx wr W _ K.out.at1)
              clear hx hj
              go_wp2_with fail
              refine TK.out.mono ?_
              rintro e w5 ⟨rfl, rfl⟩
              clear TK
              go_wp2_with fail
              go_roundg (m - (i + 1))
              case measure => have := hg.out; omega
              case rel => exact ⟨i + 1, by have := hg.out; omega, by go_num, K⟩
            · have hi1 : decide ((i : Int) < (m : Int)) = false := by rw [decide_eq_false_iff_not]; omega
              have hi2 : decide (i < m) = false := by rw [decide_eq_false_iff_not]; omega
              clear hlt hg hiN
              go_wp2_with fail
              clear hi1 hi2
              go_loopg [15] m (fun g iv wr => ∃ i : Nat, g + i = m ∧ iv = .int .i64 i ∧ Hid (Hs W wr [Ls Enc.str 9 (.slice A m c) cur, RS p M (cur.drop i), Old W]))
              case atStart => exact ⟨0, rfl, rfl, K⟩
              case round =>
                clear K
                obtain ⟨i, hg, rfl, K⟩ := hrel
                have hiN : i ≤ m := by omega
                replace hg := Lib.hid hg
                rcases Nat.lt_or_ge i m with hlt | hlt
                · have hi0 : (0 : Int) ≤ (i : Int) := by omega
                  have hi1 : (i : Int) < (m : Int) := by omega
                  have hwi : IntKind.i64.wrap ((i : Int) + 1) = ((i + 1 : Nat) : Int) := by rw [IntWalk.i64_in _ (by omega)]; omega
                  have hil : i < cur.length := by have := hcl.out; omega
                  obtain ⟨x, hx⟩ : ∃ x, cur[i]? = some x := ⟨_, List.getElem?_eq_getElem hil⟩
                  have hdr : cur.drop i = x :: cur.drop (i + 1) := by
                    rw [List.drop_eq_getElem_cons hil]
                    rw [List.getElem?_eq_getElem hil] at hx
                    injection hx with hx
                    rw [hx]
                  obtain ⟨g, off, rfl⟩ := K.out.ls_rd.some_ (by omega)
                  have s0 : wr.cell? ⟨g, off + i, none⟩ = some (.string x) := by have := K.out.ls_rd.cell hx 0 rfl; simpa [Enc.str] using this
                  have K2 := K.out.at1
                  rw [hdr] at K2
                  have TT := Lib.hid (takeC17 p M x (cur.drop (i + 1)) wr W _ K2 (by have := hcl.out; rw [List.length_drop]; omega))
                  clear hdr K2 hil
                  go_wp2_with fail
                  refine TT.out.mono ?_
                  rintro e w5 ⟨rfl, K5⟩
                  have s1 : w5.cell? ⟨g, off + i, none⟩ = some (.string x) := by have := K5.at1.ls_rd.cell hx 0 rfl; simpa [Enc.str] using this
                  replace K5 := Lib.hid K5
                  clear hx s0 TT K
                  go_wp2_with fail
                  go_roundg (m - (i + 1))
                  case measure => have := hg.out; omega
                  case rel => exact ⟨i + 1, by have := hg.out; omega, by go_num, Lib.hid K5.out.at1⟩
                · have hi1 : decide ((i : Int) < (m : Int)) = false := by rw [decide_eq_false_iff_not]; omega
                  have hi2 : decide (i < m) = false := by rw [decide_eq_false_iff_not]; omega
                  have hdr : cur.drop i = [] := List.drop_of_length_le (by have := hcl.out; omega)
                  rw [hdr] at K
                  clear hlt hg hiN hdr
                  go_wp2_with fail
                  refine (len18 p M [] wr W _ K.out.at1).mono ?_
                  rintro e w5 ⟨rfl, rfl⟩
                  go_wp2_with fail
                  go_ret
                  exact ⟨rfl, K.out.tail.tail.under_old⟩
theorem ringsides_walk2 (pl : Int) (A1 : Option Addr) (n1 c1 : Nat) (fs : List ByteArray) (A2 : Option Addr) (n2 c2 : Nat) (bs : List ByteArray) (W : World) (hpl : (Lit.int .i64 pl).wf = true) (r1 : RdL Enc.str W (.slice A1 n1 c1) fs) (_ : ∀ x ∈ fs, x.size ≤ maxLen) (r2 : RdL Enc.str W (.slice A2 n2 c2) bs) (_ : ∀ x ∈ bs, x.size ≤ maxLen) :
    Calls Try.prog 4 #[.int .i64 pl, .slice A1 n1 c1, .slice A2 n2 c2] W fun e w' => e = .returned (.bool true) ∧ Below W.heap.size W w' := ringsides_walk pl A1 n1 c1 fs A2 n2 c2 bs W hpl r1 r2
end Go.Proofs.Ytlpcofjmleghdaa

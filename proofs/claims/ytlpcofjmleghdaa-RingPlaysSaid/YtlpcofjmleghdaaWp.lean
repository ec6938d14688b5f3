import Derived.Test.YtlpcofjmleghdaaKn
import Derived.IntWalk
import Derived.Deep.CutRange
import Derived.Test.YtlpcofjmleghdaaProg
import Derived.Test.YtlpcofjmleghdaaLs
import Derived.Outline
import Derived.StillTailTactics
import Derived.Deep.DeepCutAuto
import Derived.Deep.CutBlock
import Derived.Deep.LoopGhost
import Derived.Deep.QuietTactic
import Derived.BigQuiet
import Derived.Deep.RegionHeld3
import Derived.Deep.RegionLaw
set_option linter.unusedVariables false
set_option linter.unusedSimpArgs false
namespace Go.Proofs.Ytlpcofjmleghdaa
open Go.RowKit
abbrev RI3 (p most : Nat) (xs : List Int) : HP := Rg (Enc.num .i64) 3 71 p most xs
abbrev LI (A : Option Addr) (n c : Nat) (xs : List Int) : HP := Ls (Enc.num .i64) 3 (.slice A n c) xs
abbrev ESt : Enc (Int × Int) := (Enc.num .i64).pair (Enc.num .i64)
set_option maxRecDepth 100000 in
set_option maxHeartbeats 16000000 in
theorem ringplays_walk (a : Int) (A0 : Option Addr) (N c0 : Nat) (l : List (Int × Int)) (W : World) (ha : (Lit.int .i64 a).wf = true) (r1 : RdL ESt W (.slice A0 N c0) l) :
    Calls Try.prog 5 #[.int .i64 a, .slice A0 N c0] W fun e w' => e = .returned (.bool true) ∧ Below W.heap.size W w' := by
  have hN := r1.caps.1
  have hc1 := r1.caps.2
  have r10 := Lib.hid r1
  replace hN := Lib.hid hN
  have K := Lib.hid (Hs.start W)
  obtain ⟨M, hM⟩ : ∃ y, bnd a = y := ⟨_, rfl⟩
  have hM2 := (bnd_in a).2
  have hM1 := (bnd_in a).1
  have hMe := bnd_eq a
  unfold bndI at hMe
  rw [hM] at hM1 hM2 hMe
  have TN1 : Hid (∀ w R, Hs W w R → Calls Try.prog 19 #[.int .i64 a] w fun e w' => ∃ p, e = .returned (.pointer (some ⟨p, 0, none⟩)) ∧ Hs W w' (RI3 p M [] :: R)) := fun w R H => by
    have := new19 a w W R H
    rw [hM] at this
    exact this
  replace hMe := Lib.hid hMe
  clear r1 ha hM
  by_cases g1 : 500 < N
  · have e1 : decide ((500 : Int) < (N : Int)) = true := by rw [decide_eq_true_eq]; omega
    have e2 : decide (500 < N) = true := decide_eq_true g1
    clear TN1 g1 hMe
    go_enter Try.func5, Try.ntmps5
    go_wp2_with fail
    refine (known7 W W _ K.out).mono ?_
    rintro e w2 ⟨rfl, K2⟩
    replace K2 := Lib.hid K2
    go_wp2_with fail
    go_ret
    exact ⟨rfl, K2.out.under_old⟩
  have e1 : decide ((500 : Int) < (N : Int)) = false := by rw [decide_eq_false_iff_not]; omega
  have e2 : decide (500 < N) = false := decide_eq_false g1
  have b1 : N ≤ 500 := by omega
  clear g1
  go_enter Try.func5, Try.ntmps5
  go_wp2_with fail
  refine (known7 W W _ K.out).mono ?_
  rintro e w2 ⟨rfl, K2⟩
  replace K2 := Lib.hid K2
  clear K
  go_wp2_with fail
  refine (TN1.out w2 _ K2.out).mono ?_
  rintro e w3 ⟨p, rfl, K3⟩
  have K5 := Lib.hid (K3.ls_nil (Enc.num .i64) 3)
  clear K2 K3 TN1 e1 e2
  go_upto_region 6 with (fail)
  go_cut [0] (fun mv wx => mv = .int .i64 M ∧ wx = w3)
  case first =>
    go_wp2_with fail
    go_meet
    case rel => exact ⟨by congr 1; rw [hMe.out], rfl⟩
  case rest =>
  obtain ⟨rfl, hcw⟩ := hcut
  replace hcw := hcw.symm
  subst hcw
  clear hMe
  go_wp2_with fail
  go_loopg [6, 7] N (fun g pv iv wr => ∃ (i : Nat) (A : Option Addr) (m c : Nat) (us : List Int), g + i = N ∧ iv = .int .i64 i ∧ pv = .slice A m c ∧ m ≤ i ∧ Hid (us.length = m) ∧ Hid (Hs W wr [LI A m c us, RI3 p M us, Old W]))
  case atStart => exact ⟨0, none, 0, 0, [], rfl, rfl, rfl, Nat.le_refl _, Lib.hid rfl, K5⟩
  case round =>
    clear K5
    obtain ⟨i, A, m, c, us, hg, rfl, rfl, hm, hus, K⟩ := hrel
    have hiN : i ≤ N := by omega
    replace hg := Lib.hid hg
    rcases Nat.lt_or_ge i N with hlt | hlt
    · have hi0 : (0 : Int) ≤ (i : Int) := by omega
      have hi1 : (i : Int) < (N : Int) := by omega
      have hwi : IntKind.i64.wrap ((i : Int) + 1) = ((i + 1 : Nat) : Int) := by rw [IntWalk.i64_in _ (by omega)]; omega
      obtain ⟨⟨wt, x⟩, hx⟩ : ∃ x, l[i]? = some x := ⟨_, List.getElem?_eq_getElem (by have := hN.out; omega)⟩
      obtain ⟨g, off, rfl⟩ := (r10.out.old K.out.tail.tail).some_ (by have := hN.out; omega)
      have s0 : wr.cell? ⟨g, off + i * 2, none⟩ = some (.int .i64 wt) := (r10.out.old K.out.tail.tail).cell hx 0 rfl
      have s1 : wr.cell? ⟨g, off + i * 2 + 1, none⟩ = some (.int .i64 x) := (r10.out.old K.out.tail.tail).cell hx 1 rfl
      clear hx
      go_upto_block 2 with (fail)
      clear s0 s1
      go_cut [6, 9, 10, 11, 12, 13, 14, 15] from 28 to 170 (fun lv _ _ _ _ _ _ _ wc => ∃ (A : Option Addr) (m c : Nat) (us : List Int), lv = .slice A m c ∧ m ≤ i + 1 ∧ Hid (us.length = m) ∧ Hid (Hs W wc [LI A m c us, RI3 p M us, Old W]))
      case first =>
        by_cases h0 : wt = 0
        · subst h0
          as_aux_lemma =>
            have TP := Lib.hid (put20 p M us x wr W _ K.out.at1 (by have := hus.out; omega))
            rw [hus.out] at TP
            by_cases hmc : m < M
            · rw [decide_eq_true hmc, if_pos hmc] at TP
              have d1 : decide ((m : Int) < (M : Int)) = true := by rw [decide_eq_true_eq]; omega
              have d2 : decide (m < M) = true := decide_eq_true hmc
              clear hmc
              go_wp2_with fail
              refine TP.out.mono ?_
              rintro e w5 ⟨rfl, K5⟩
              replace K5 := Lib.hid K5.at1
              clear K TP
              go_wp2_with (at_builtin; refine wpList_append1N (E := Enc.num .i64) m hus.out rfl (.tmp 58) (.tmp 60) 27 rfl 3 _ 1 8 Try.underlying27 infoR19 rfl (by decide) (by decide) rfl rfl rfl (by simp) K5.out x (by omega) ?_)
              intro A6 c6 w6 K6
              replace K6 := Lib.hid K6
              clear K5
              go_wp2_with fail
              go_meet
              case rel => exact ⟨A6, m + 1, c6, us ++ [x], rfl, by omega, Lib.hid (by rw [List.length_append, hus.out]; rfl), K6⟩
            · rw [decide_eq_false hmc, if_neg hmc] at TP
              have d1 : decide ((m : Int) < (M : Int)) = false := by rw [decide_eq_false_iff_not]; omega
              have d2 : decide (m < M) = false := decide_eq_false hmc
              clear hmc
              go_wp2_with fail
              refine TP.out.mono ?_
              rintro e w5 ⟨rfl, K5⟩
              replace K5 := Lib.hid K5.at1
              clear K TP
              go_wp2_with fail
              go_meet
              case rel => exact ⟨A, m, c, us, rfl, by omega, hus, K5⟩
        by_cases h1 : wt = 1
        · subst h1
          as_aux_lemma =>
            have TP := Lib.hid (put20 p M us x wr W _ K.out.at1 (by have := hus.out; omega))
            rw [hus.out] at TP
            by_cases hmc : m < M
            · rw [decide_eq_true hmc, if_pos hmc] at TP
              have d1 : decide ((m : Int) < (M : Int)) = true := by rw [decide_eq_true_eq]; omega
              have d2 : decide (m < M) = true := decide_eq_true hmc
              clear hmc
              go_wp2_with fail
              refine TP.out.mono ?_
              rintro e w5 ⟨rfl, K5⟩
              replace K5 := Lib.hid K5.at1
              clear K TP
              go_wp2_with (at_builtin; refine wpList_append1N (E := Enc.num .i64) m hus.out rfl (.tmp 58) (.tmp 60) 27 rfl 3 _ 1 8 Try.underlying27 infoR19 rfl (by decide) (by decide) rfl rfl rfl (by simp) K5.out x (by omega) ?_)
              intro A6 c6 w6 K6
              replace K6 := Lib.hid K6
              clear K5
              go_wp2_with fail
              go_meet
              case rel => exact ⟨A6, m + 1, c6, us ++ [x], rfl, by omega, Lib.hid (by rw [List.length_append, hus.out]; rfl), K6⟩
            · rw [decide_eq_false hmc, if_neg hmc] at TP
              have d1 : decide ((m : Int) < (M : Int)) = false := by rw [decide_eq_false_iff_not]; omega
              have d2 : decide (m < M) = false := decide_eq_false hmc
              clear hmc
              go_wp2_with fail
              refine TP.out.mono ?_
              rintro e w5 ⟨rfl, K5⟩
              replace K5 := Lib.hid K5.at1
              clear K TP
              go_wp2_with fail
              go_meet
              case rel => exact ⟨A, m, c, us, rfl, by omega, hus, K5⟩
        by_cases h2 : wt = 2
        · subst h2
          as_aux_lemma =>
            have TP := Lib.hid (put20 p M us x wr W _ K.out.at1 (by have := hus.out; omega))
            rw [hus.out] at TP
            by_cases hmc : m < M
            · rw [decide_eq_true hmc, if_pos hmc] at TP
              have d1 : decide ((m : Int) < (M : Int)) = true := by rw [decide_eq_true_eq]; omega
              have d2 : decide (m < M) = true := decide_eq_true hmc
              clear hmc
              go_wp2_with fail
              refine TP.out.mono ?_
              rintro e w5 ⟨rfl, K5⟩
              replace K5 := Lib.hid K5.at1
              clear K TP
              go_wp2_with (at_builtin; refine wpList_append1N (E := Enc.num .i64) m hus.out rfl (.tmp 58) (.tmp 60) 27 rfl 3 _ 1 8 Try.underlying27 infoR19 rfl (by decide) (by decide) rfl rfl rfl (by simp) K5.out x (by omega) ?_)
              intro A6 c6 w6 K6
              replace K6 := Lib.hid K6
              clear K5
              go_wp2_with fail
              go_meet
              case rel => exact ⟨A6, m + 1, c6, us ++ [x], rfl, by omega, Lib.hid (by rw [List.length_append, hus.out]; rfl), K6⟩
            · rw [decide_eq_false hmc, if_neg hmc] at TP
              have d1 : decide ((m : Int) < (M : Int)) = false := by rw [decide_eq_false_iff_not]; omega
              have d2 : decide (m < M) = false := decide_eq_false hmc
              clear hmc
              go_wp2_with fail
              refine TP.out.mono ?_
              rintro e w5 ⟨rfl, K5⟩
              replace K5 := Lib.hid K5.at1
              clear K TP
              go_wp2_with fail
              go_meet
              case rel => exact ⟨A, m, c, us, rfl, by omega, hus, K5⟩
        by_cases h3 : wt = 3
        · subst h3
          as_aux_lemma =>
            have TF := Lib.hid (front21 p M us x wr W _ K.out.at1 (by have := hus.out; omega) (by omega))
            rw [hus.out] at TF
            obtain ⟨m2, hm2⟩ : ∃ y, 2 * M = y := ⟨_, rfl⟩
            rw [hm2] at TF
            have hw2 : IntKind.i64.wrap (2 * (M : Int)) = (m2 : Int) := by rw [IntWalk.i64_in _ (by omega)]; omega
            clear hm2
            by_cases hmM : m < m2
            · rw [decide_eq_true hmM, if_pos hmM] at TF
              have d1 : decide ((m : Int) < (m2 : Int)) = true := by rw [decide_eq_true_eq]; omega
              have d2 : decide (m < m2) = true := decide_eq_true hmM
              clear hmM
              go_wp2_with fail
              refine TF.out.mono ?_
              rintro e w5 ⟨rfl, K5⟩
              have K6 := K5.alloc (.cells #[.int .i64 x] 3)
              have K7 := Lib.hid (Hs.ls_shut (E := Enc.num .i64) (off := 0) (n := 1) (c := 1) (xs := [x]) K6 rfl (by omega) (by unfold maxLen; omega) (by show 0 + 1 * 1 ≤ 1; omega) (fun j u hu => by rw [Nat.zero_add]; simpa [flat, Enc.num] using hu))
              clear K TF K5 K6
              go_wp2_with (at_builtin; refine wpList_appendN (E := Enc.num .i64) (1 + m) rfl (.tmp 76) (.tmp 77) 27 rfl 3 _ 1 8 Try.underlying27 infoR19 rfl (by decide) (by decide) rfl rfl _ rfl K7.out K7.out.at2.ls_rd (by omega) (by rw [hus.out]; rfl) ?_)
              intro A6 c6 w6 K8
              have K9 := Lib.hid (show Hs W w6 [LI A6 (1 + m) c6 (x :: us), RI3 p M (x :: us), Old W] from K8.at2.tail)
              clear K7
              go_wp2_with fail
              go_meet
              case rel => exact ⟨A6, 1 + m, c6, x :: us, rfl, by omega, Lib.hid (by rw [List.length_cons, hus.out]; omega), K9⟩
            · rw [decide_eq_false hmM, if_neg hmM] at TF
              have d1 : decide ((m : Int) < (m2 : Int)) = false := by rw [decide_eq_false_iff_not]; omega
              have d2 : decide (m < m2) = false := decide_eq_false hmM
              clear hmM
              go_wp2_with fail
              refine TF.out.mono ?_
              rintro e w5 ⟨rfl, K5⟩
              replace K5 := Lib.hid K5.at1
              clear K TF
              go_wp2_with fail
              go_meet
              case rel => exact ⟨A, m, c, us, rfl, by omega, hus, K5⟩
        by_cases h4 : wt = 4
        · subst h4
          as_aux_lemma =>
            cases us with
            | nil =>
              obtain rfl : m = 0 := by have := hus.out; exact this.symm
              have TT := Lib.hid (takeN22 p M wr W _ K.out.at1)
              go_wp2_with fail
              refine TT.out.mono ?_
              rintro e w5 ⟨rfl, rfl⟩
              clear TT
              go_wp2_with fail
              go_meet
              case rel => exact ⟨A, 0, c, [], rfl, by omega, hus, K⟩
            | cons y us =>
              obtain ⟨m1, rfl⟩ : ∃ y, m = y + 1 := ⟨m - 1, by have := hus.out; rw [List.length_cons] at this; omega⟩
              obtain ⟨gp, po, rfl⟩ := K.out.ls_rd.some_ (by rw [List.length_cons]; omega)
              obtain ⟨A2, hA2, hcut2⟩ := cut_tail Try.prog 27 3 1 Try.underlying27 (by kernel_rfl) (some ⟨gp, po, none⟩) m1 c
              have z1 : decide ((0 : Int) < ((m1 + 1 : Nat) : Int)) = true := by rw [decide_eq_true_eq]; omega
              have z2 : decide ((0 : Int) < (m1 : Int) + 1) = true := by rw [decide_eq_true_eq]; omega
              have z3 : decide (0 < m1 + 1) = true := by rw [decide_eq_true_eq]; omega
              have z4 : (0 : Int) < ((m1 + 1 : Nat) : Int) := by omega
              have z5 : (0 : Int) < (m1 : Int) + 1 := by omega
              have TT := Lib.hid (takeC22 p M y us wr W _ K.out.at1 (by have := hus.out; rw [List.length_cons] at this; omega))
              go_wp2_with fail
              refine TT.out.mono ?_
              rintro e w5 ⟨rfl, K5⟩
              have q1 : w5.cell? ⟨gp, po, none⟩ = some (.int .i64 y) := by have := K5.at1.ls_rd.cell (i := 0) (x := y) rfl 0 rfl; simpa [Enc.num] using this
              have K6 := Lib.hid (K5.at1.ls_tail (n := m1 + 1) (m := m1) rfl rfl hA2)
              clear K K5 TT hA2
              go_wp2_with fail
              go_meet
              case rel => exact ⟨A2, m1, _, us, rfl, by omega, Lib.hid (by have := hus.out; rw [List.length_cons] at this; omega), K6⟩
        by_cases h5 : wt = 5
        · subst h5
          as_aux_lemma =>
            cases us with
            | nil =>
              obtain rfl : m = 0 := by have := hus.out; exact this.symm
              have TT := Lib.hid (takeN22 p M wr W _ K.out.at1)
              go_wp2_with fail
              refine TT.out.mono ?_
              rintro e w5 ⟨rfl, rfl⟩
              clear TT
              go_wp2_with fail
              go_meet
              case rel => exact ⟨A, 0, c, [], rfl, by omega, hus, K⟩
            | cons y us =>
              obtain ⟨m1, rfl⟩ : ∃ y, m = y + 1 := ⟨m - 1, by have := hus.out; rw [List.length_cons] at this; omega⟩
              obtain ⟨gp, po, rfl⟩ := K.out.ls_rd.some_ (by rw [List.length_cons]; omega)
              obtain ⟨A2, hA2, hcut2⟩ := cut_tail Try.prog 27 3 1 Try.underlying27 (by kernel_rfl) (some ⟨gp, po, none⟩) m1 c
              have z1 : decide ((0 : Int) < ((m1 + 1 : Nat) : Int)) = true := by rw [decide_eq_true_eq]; omega
              have z2 : decide ((0 : Int) < (m1 : Int) + 1) = true := by rw [decide_eq_true_eq]; omega
              have z3 : decide (0 < m1 + 1) = true := by rw [decide_eq_true_eq]; omega
              have z4 : (0 : Int) < ((m1 + 1 : Nat) : Int) := by omega
              have z5 : (0 : Int) < (m1 : Int) + 1 := by omega
              have TT := Lib.hid (takeC22 p M y us wr W _ K.out.at1 (by have := hus.out; rw [List.length_cons] at this; omega))
              go_wp2_with fail
              refine TT.out.mono ?_
              rintro e w5 ⟨rfl, K5⟩
              have q1 : w5.cell? ⟨gp, po, none⟩ = some (.int .i64 y) := by have := K5.at1.ls_rd.cell (i := 0) (x := y) rfl 0 rfl; simpa [Enc.num] using this
              have K6 := Lib.hid (K5.at1.ls_tail (n := m1 + 1) (m := m1) rfl rfl hA2)
              clear K K5 TT hA2
              go_wp2_with fail
              go_meet
              case rel => exact ⟨A2, m1, _, us, rfl, by omega, Lib.hid (by have := hus.out; rw [List.length_cons] at this; omega), K6⟩
        by_cases h6 : wt = 6
        · subst h6
          as_aux_lemma =>
            obtain ⟨k, hk⟩ : ∃ y, x.tmod 9 = y := ⟨_, rfl⟩
            have hk1 := Int.tmod_lt_of_pos x (show (0 : Int) < 9 by omega)
            have hk2 := Int.lt_tmod_of_pos x (show (0 : Int) < 9 by omega)
            rw [hk] at hk1 hk2
            have hwk : IntKind.i64.wrap k = k := IntWalk.i64_in _ (by omega)
            by_cases hk0 : k < 0
            · have TO := Lib.hid (peekOut23 p M us k (.inl hk0) wr W _ K.out.at1)
              have d1 : decide (0 ≤ k) = false := by rw [decide_eq_false_iff_not]; omega
              clear hk0 hk1 hk2
              go_wp2_with fail
              refine TO.out.mono ?_
              rintro e w5 ⟨rfl, rfl⟩
              clear TO
              go_wp2_with fail
              go_meet
              case rel => exact ⟨A, m, c, us, rfl, by omega, hus, K⟩
            obtain ⟨j, rfl⟩ := Int.eq_ofNat_of_zero_le (show 0 ≤ k by omega)
            clear hk0 hk2
            by_cases hjm : j < m
            · obtain ⟨y, hy⟩ : ∃ x, us[j]? = some x := ⟨_, List.getElem?_eq_getElem (by have := hus.out; omega)⟩
              have TO := Lib.hid (peekIn23 p M us j y hy wr W _ K.out.at1)
              obtain ⟨g2, off2, rfl⟩ := K.out.ls_rd.some_ (by have := hus.out; omega)
              have q0 : wr.cell? ⟨g2, off2 + j, none⟩ = some (.int .i64 y) := by have := K.out.ls_rd.cell hy 0 rfl; simpa [Enc.num] using this
              have d0 : (0 : Int) ≤ (j : Int) := by omega
              have d3 : (j : Int) < (m : Int) := by omega
              have d1 : decide ((j : Int) < (m : Int)) = true := by rw [decide_eq_true_eq]; omega
              have d2 : decide (j < m) = true := decide_eq_true hjm
              clear hy
              go_wp2_with fail
              refine TO.out.mono ?_
              rintro e w5 ⟨rfl, rfl⟩
              clear TO
              go_wp2_with fail
              go_meet
              case rel => exact ⟨_, m, c, us, rfl, by omega, hus, K⟩
            · have TO := Lib.hid (peekOut23 p M us j (.inr (by have := hus.out; omega)) wr W _ K.out.at1)
              have d0 : (0 : Int) ≤ (j : Int) := by omega
              have d1 : decide ((j : Int) < (m : Int)) = false := by rw [decide_eq_false_iff_not]; omega
              have d2 : decide (j < m) = false := decide_eq_false hjm
              clear hjm
              go_wp2_with fail
              refine TO.out.mono ?_
              rintro e w5 ⟨rfl, rfl⟩
              clear TO
              go_wp2_with fail
              go_meet
              case rel => exact ⟨A, m, c, us, rfl, by omega, hus, K⟩
        by_cases h7 : wt = 7
        · subst h7
          as_aux_lemma =>
            have TC := Lib.hid (clear24 p M us wr W _ K.out.at1)
            go_wp2_with fail
            refine TC.out.mono ?_
            rintro e w5 ⟨rfl, K5⟩
            have K6 := Lib.hid (K5.at1.tail.ls_nil (Enc.num .i64) 3)
            clear K K5 TC
            go_wp2_with fail
            go_meet
            case rel => exact ⟨none, 0, 0, [], rfl, by omega, Lib.hid rfl, K6⟩
        have w0_ : (wt == 0) = false := beq_eq_false_iff_ne.2 h0
        have w1_ : (wt == 1) = false := beq_eq_false_iff_ne.2 h1
        have w2_ : (wt == 2) = false := beq_eq_false_iff_ne.2 h2
        have w3_ : (wt == 3) = false := beq_eq_false_iff_ne.2 h3
        have w4_ : (wt == 4) = false := beq_eq_false_iff_ne.2 h4
        have w5_ : (wt == 5) = false := beq_eq_false_iff_ne.2 h5
        have w6_ : (wt == 6) = false := beq_eq_false_iff_ne.2 h6
        have w7_ : (wt == 7) = false := beq_eq_false_iff_ne.2 h7
        clear h0 h1 h2 h3 h4 h5 h6 h7
        as_aux_lemma =>
          go_wp2_with fail
          go_meet
          case rel => exact ⟨A, m, c, us, rfl, by omega, hus, K⟩
      case rest =>
        obtain ⟨A, m, c, us, rfl, hm, hus, K⟩ := hcut
        have TL := Lib.hid (len25 p M us wc W _ K.out.at1)
        have TR := Lib.hid (room26 p M us wc W _ K.out.at1 (by have := hus.out; omega) (by omega))
        rw [hus.out] at TL TR
        obtain ⟨d, hd⟩ : ∃ y : Int, (M : Int) - (m : Int) = y := ⟨_, rfl⟩
        obtain ⟨r, hr⟩ : ∃ y, M - m = y := ⟨_, rfl⟩
        rw [hr] at TR
        have hwd : IntKind.i64.wrap ((M : Int) - (m : Int)) = d := by rw [IntWalk.i64_in _ (by omega)]; exact hd
        have hmx : max (0 : Int) d = (r : Int) := by omega
        go_wp2_with fail
        refine TL.out.mono ?_
        rintro e w5 ⟨rfl, rfl⟩
        go_wp2_with fail
        refine TR.out.mono ?_
        rintro e w5 ⟨rfl, z, rfl⟩
        have K6 := Lib.hid (K.out.drewN z)
        clear K TL TR
        generalize World.drewN wc z = w6 at K6 ⊢
        go_wp2_with fail
        go_roundg (N - (i + 1))
        case measure => have := hg.out; omega
        case rel => exact ⟨i + 1, A, m, c, us, by have := hg.out; omega, by go_num, rfl, hm, hus, K6⟩
    · have hi1 : decide ((i : Int) < (N : Int)) = false := by rw [decide_eq_false_iff_not]; omega
      have hi2 : decide (i < N) = false := by rw [decide_eq_false_iff_not]; omega
      have hm5 : m ≤ 500 := by omega
      have hms : us.length ≤ 1000000 := by have := hus.out; omega
      clear hlt hg hiN hm
      have TA := Lib.hid (fun w R (H : Hs W w (RI3 p M us :: R)) => all27 p M us w W R H hms)
      rw [hus.out] at TA
      clear hms
      go_wp2_with fail
      refine (TA.out wr _ K.out.at1).mono ?_
      rintro e w5 ⟨A2, c2, rfl, K2⟩
      replace K2 := Lib.hid K2
      clear K hi1 hi2
      go_wp2_with fail
      refine (eqlist28 _ _ us us w5 K2.out.ls_rd K2.out.at2.ls_rd).mono ?_
      rw [decide_eq_true rfl]
      rintro e w6 ⟨rfl, z, rfl⟩
      have K3 := Lib.hid ((K2.out.drewN z).at1.at2.at2)
      clear K2
      generalize World.drewN w5 z = w6 at K3 ⊢
      go_wp2_with fail
      go_loopg [17] m (fun g iv wr => ∃ (i : Nat) (ys : List Int), g + i = m ∧ iv = .int .i64 i ∧ Hid (ys.length = m) ∧ Hid (Hs W wr [LI A2 m c2 ys, LI A m c us, RI3 p M us, Old W]))
      case atStart => exact ⟨0, us, rfl, rfl, hus, K3⟩
      case round =>
        clear K3
        obtain ⟨i, ys, hg, rfl, hys, K⟩ := hrel
        have hiN : i ≤ m := by omega
        replace hg := Lib.hid hg
        rcases Nat.lt_or_ge i m with hlt | hlt
        · have hi0 : (0 : Int) ≤ (i : Int) := by omega
          have hi1 : (i : Int) < (m : Int) := by omega
          have hwi : IntKind.i64.wrap ((i : Int) + 1) = ((i + 1 : Nat) : Int) := by rw [IntWalk.i64_in _ (by omega)]; omega
          obtain ⟨y, hy⟩ : ∃ x, ys[i]? = some x := ⟨_, List.getElem?_eq_getElem (by have := hys.out; omega)⟩
          obtain ⟨g, off, rfl⟩ := K.out.ls_rd.some_ (by have := hys.out; omega)
          have s0 : wr.cell? ⟨g, off + i, none⟩ = some (.int .i64 y) := by have := K.out.ls_rd.cell hy 0 rfl; simpa [Enc.num] using this
          have f0 := K.out.ls_frozen (off + i)
          have K4 := Lib.hid (K.out.ls_set rfl i hlt (-1) (.int .i64 (-1)) rfl)
          clear hy K
          go_wp2_with fail
          go_roundg (m - (i + 1))
          case measure => have := hg.out; omega
          case rel => exact ⟨i + 1, ys.set i (-1), by have := hg.out; omega, by go_num, Lib.hid (by rw [List.length_set]; exact hys.out), K4⟩
        · have hi1 : decide ((i : Int) < (m : Int)) = false := by rw [decide_eq_false_iff_not]; omega
          have hi2 : decide (i < m) = false := by rw [decide_eq_false_iff_not]; omega
          clear hlt
          go_wp2_with fail
          refine (TA.out wr _ K.out.at2).mono ?_
          rintro e w5 ⟨A3, c3, rfl, K2⟩
          replace K2 := Lib.hid K2
          clear K hi1 hi2
          go_wp2_with fail
          refine (eqlist28 _ _ us us w5 K2.out.ls_rd K2.out.at3.ls_rd).mono ?_
          rw [decide_eq_true rfl]
          rintro e w6 ⟨rfl, z, rfl⟩
          have K3 := Lib.hid (K2.out.drewN z)
          clear K2
          generalize World.drewN w5 z = w6 at K3 ⊢
          go_wp2_with fail
          go_ret
          exact ⟨rfl, K3.out.tail.tail.tail.tail.under_old⟩
theorem ringplays_walk2 (a : Int) (A0 : Option Addr) (N c0 : Nat) (l : List (Int × Int)) (W : World) (ha : (Lit.int .i64 a).wf = true) (r1 : RdL ESt W (.slice A0 N c0) l) (_ : ∀ x ∈ l, (Lit.int .i64 x.1).wf = true ∧ (Lit.int .i64 x.2).wf = true) :
    Calls Try.prog 5 #[.int .i64 a, .slice A0 N c0] W fun e w' => e = .returned (.bool true) ∧ Below W.heap.size W w' := ringplays_walk a A0 N c0 l W ha r1
end Go.Proofs.Ytlpcofjmleghdaa

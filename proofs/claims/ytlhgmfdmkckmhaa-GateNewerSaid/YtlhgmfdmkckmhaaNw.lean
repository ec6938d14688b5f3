import Derived.Test.YtlhgmfdmkckmhaaNa
import Derived.IntWalk
import Derived.Test.YtlhgmfdmkckmhaaProg
import Derived.Test.YtlhgmfdmkckmhaaLs
import Derived.Outline
import Derived.StillTailTactics
import Derived.Deep.DeepCutAuto
import Derived.Deep.CutBlock
import Derived.Deep.LoopGhost
import Derived.Deep.QuietTactic
import Derived.BigQuiet
import Derived.Deep.RegionHeld3
import Derived.Deep.RegionLaw
set_option linter.unusedVariables false
set_option linter.unusedSimpArgs false
namespace Go.Proofs.Ytlhgmfdmkckmhaa
open Go.RowKit
set_option maxRecDepth 100000 in
set_option maxHeartbeats 2000000 in
theorem gatenewer_walk (n0 c0 : Int) (ov nw : Bool) (w : World) (hn : (Lit.int .i64 n0).wf = true) (hc : (Lit.int .i64 c0).wf = true) :
    Calls Try.prog 6 #[.int .i64 n0, .int .i64 c0, .bool ov, .bool nw] w fun e w' => e = .returned (.bool true) ∧ Below w.heap.size w w' := by
  clear hn hc
  obtain ⟨m, hm⟩ : ∃ m : Nat, n0 % 6 = (m : Int) := ⟨(n0 % 6).toNat, by omega⟩
  obtain ⟨N1, hN1⟩ : ∃ N1, N1 = m + 1 := ⟨_, rfl⟩
  obtain ⟨N, hN⟩ : ∃ N, N = N1 + 1 := ⟨_, rfl⟩
  obtain ⟨cm, hcm⟩ : ∃ cm : Nat, c0 % (N1 : Int) = (cm : Int) := ⟨(c0 % (N1 : Int)).toNat, by have := Int.emod_nonneg c0 (show (N1 : Int) ≠ 0 by omega); omega⟩
  have hcm2 : cm < N1 := by have := Int.emod_lt_of_pos c0 (show (0 : Int) < (N1 : Int) by omega); omega
  obtain ⟨C, hC⟩ : ∃ C, C = cm + 1 := ⟨_, rfl⟩
  have hw1 : IntKind.i64.wrap (2 + (m : Int)) = (N : Int) := by rw [IntWalk.i64_in _ (by omega)]; omega
  have hw2 : IntKind.i64.wrap ((N : Int) - 1) = (N1 : Int) := by rw [IntWalk.i64_in _ (by omega)]; omega
  have hw3 : IntKind.i64.wrap (1 + (cm : Int)) = (C : Int) := by rw [IntWalk.i64_in _ (by omega)]; omega
  have hN8 : N < 8 := by omega
  have hN2 : 2 ≤ N := by omega
  have hCN : C < N := by omega
  have hC1 : 1 ≤ C := by omega
  replace hm := Lib.hid hm
  replace hcm := Lib.hid hcm
  have hNN := Lib.hid hN
  have hN1p : (0 : Int) < (N1 : Int) := by omega
  have hN18 : (N1 : Int) ≤ 1000000 := by omega
  clear hN hC hcm2 hN1
  go_enter Try.func6, Try.ntmps6
  go_wp2_with fail
  refine (known8 w w _ (Hs.start w)).mono ?_
  rintro e w1 ⟨rfl, H⟩
  go_wp2_with fail
  refine (place9 n0 6 _ (by omega) (by omega)).mono ?_
  rw [hm.out]
  rintro e w2 ⟨rfl, rfl⟩
  go_wp2_with fail
  refine (place9 c0 N1 _ hN1p hN18).mono ?_
  rw [hcm.out]
  rintro e w2 ⟨rfl, rfl⟩
  go_wp2_with fail
  refine (new12 N _ w _ H).mono ?_
  rintro e w1 ⟨p, rfl, H⟩
  rw [← run1_zero N ov] at H
  replace H := Lib.hid H
  go_wp2_with fail
  go_loopg [10] C (fun k iv wr => ∃ j : Nat, k + j = C ∧ iv = .int .i64 j ∧ Hid (Hs w wr [GateP p (run1 N ov j), Old w]))
  case atStart => exact ⟨0, rfl, rfl, H⟩
  case round =>
    clear H
    obtain ⟨j, hk, rfl, H⟩ := hrel
    replace hk := Lib.hid hk
    rcases Nat.lt_or_ge j C with hj | hj
    · obtain ⟨f1, f2, f3, f4⟩ := newer1 N hN8 hN2 ov j (by omega)
      have he : (run1 N ov j).take (j : Int) (barF 4 ov) = (run1 N ov (j + 1), ((run1 N ov j).take (j : Int) (barF 4 ov)).2.1, 0) := Prod.ext rfl (Prod.ext rfl f3)
      generalize ((run1 N ov j).take (j : Int) (barF 4 ov)).2.1 = x at he
      clear f3
      replace f1 := Lib.hid f1
      replace f2 := Lib.hid f2
      replace f4 := Lib.hid f4
      replace he := Lib.hid he
      have hj1 : (j : Int) < (C : Int) := by omega
      have hw4 : IntKind.i64.wrap ((j : Int) + 1) = ((j + 1 : Nat) : Int) := by rw [IntWalk.i64_in _ (by omega)]; omega
      go_wp2_with fail
      refine (bar11 4 ov _ w _ H.out).mono ?_
      rintro e w2 ⟨rfl, H1⟩
      replace H1 := Lib.hid H1
      clear H
      go_wp2_with fail
      refine (takes p _ N j (barF 4 ov) _ w _ H1.out f1.out (by rw [f2.out]; decide) _ _ _ he.out).mono ?_
      rintro e w3 ⟨rfl, H2⟩
      clear H1
      simp only [stv]
      go_upto_region 10 with (fail)
      have H3 := Lib.hid (H2.alloc_ (.cells #[.int .i64 x.1, .int .i64 x.2.1.1, .int .i64 x.2.1.2.1, .int .i64 x.2.1.2.2, .int .i64 x.2.2.1, .int .u64 x.2.2.2.1, .int .u64 x.2.2.2.2] 38))
      clear H2
      generalize World.alloc _ _ = w4 at H3 ⊢
      generalize w3.heap.size = bq
      go_wp2_with fail
      refine (blocked13 p _ _ w _ H3.out j).mono ?_
      rw [f4.out]
      rintro e w5 ⟨rfl, rfl⟩
      go_wp2_with fail
      go_roundg (C - (j + 1))
      case measure => have := hk.out; omega
      case rel => exact ⟨j + 1, by have := hk.out; omega, by go_num, Lib.hid H3.out⟩
    · have hj1 : decide ((j : Int) < (C : Int)) = false := by rw [decide_eq_false_iff_not]; omega
      have hj2 : decide (j < C) = false := by rw [decide_eq_false_iff_not]; omega
      have hjC : j = C := by have := hk.out; omega
      replace H : Hid (Hs w wr [GateP p (run1 N ov C), Old w]) := by rw [hjC] at H; exact H
      obtain ⟨u1, u2⟩ := newer2 N hN8 hN2 ov C hCN hC1
      replace u1 := Lib.hid u1
      replace u2 := Lib.hid u2
      clear hj hjC
      go_wp2_with fail
      clear hj1 hj2 hk
      refine (under20 p _ _ w _ H.out).mono ?_
      rw [u1.out]
      rintro e w2 ⟨rfl, rfl⟩
      go_wp2_with fail
      refine (last21 p _ _ w _ H.out).mono ?_
      rw [u2.out]
      rintro e w2 ⟨rfl, rfl⟩
      go_wp2_with fail
      have H0 : Hid (Hs w wr [GateP p (run2 N C ov nw 0), Old w]) := H
      clear H u1 u2
      go_loopg [13, 14] N (fun k kv iv wr => ∃ j : Nat, k + j = N ∧ iv = .int .i64 ((N1 : Int) - (j : Int)) ∧ kv = .int .i64 (kept2 N C ov nw j) ∧ Hid (Hs w wr [GateP p (run2 N C ov nw j), Old w]))
      case atStart => exact ⟨0, rfl, by simp, rfl, H0⟩
      case round =>
        clear H0
        obtain ⟨j, hk, rfl, rfl, H⟩ := hrel
        replace hk := Lib.hid hk
        rcases Nat.lt_or_ge j N with hj | hj
        · obtain ⟨I, hI⟩ : ∃ I, N - 1 - j = I := ⟨_, rfl⟩
          have hIj : I + j = N1 := by have := hNN.out; omega
          have hI2 : (N1 : Int) - (j : Int) = (I : Int) := by omega
          have F := newer3 N hN8 hN2 C hCN hC1 ov nw j hj
          unfold N3 at F
          rw [hI] at F
          obtain ⟨f1, f2, f3, f4, f5⟩ := F
          have he : (run2 N C ov nw j).take (I : Int) (barF 7 nw) = (run2 N C ov nw (j + 1), stp2 N C ov nw j, 0) := by
            show _ = ((((run2 N C ov nw j).take ((N - 1 - j : Nat) : Int) (barF 7 nw)).1), ((run2 N C ov nw j).take ((N - 1 - j : Nat) : Int) (barF 7 nw)).2.1, 0)
            rw [hI]
            exact Prod.ext rfl (Prod.ext rfl f3)
          have hkept : kept2 N C ov nw (j + 1) = kept2 N C ov nw j + (if (stp2 N C ov nw j).1 = 3 then 1 else 0) := rfl
          generalize stp2 N C ov nw j = x at he f4 hkept
          have hkb : kept2 N C ov nw j ≤ j := by
            have : ∀ m, kept2 N C ov nw m ≤ m := fun m => by
              induction m with
              | zero => exact Nat.le_refl 0
              | succ m ih => show kept2 N C ov nw m + _ ≤ _; split <;> omega
            exact this j
          obtain ⟨kp, hkd⟩ : ∃ kp, kept2 N C ov nw (j + 1) = kp := ⟨_, rfl⟩
          rw [hkd] at hkept
          replace hkd := Lib.hid hkd
          generalize kept2 N C ov nw j = ko at hkept hkb ⊢
          unfold N3a at f4
          unfold N3b at f5
          rw [hI] at f5
          obtain ⟨f41, f42⟩ := f4
          rw [hI2]
          have hw4 : IntKind.i64.wrap ((I : Int) - 1) = (N1 : Int) - ((j + 1 : Nat) : Int) := by rw [IntWalk.i64_in _ (by omega)]; omega
          have hw5 : IntKind.i64.wrap ((ko : Int) + 1) = ((ko + 1 : Nat) : Int) := by rw [IntWalk.i64_in _ (by omega)]; omega
          have hI0 : (0 : Int) ≤ (I : Int) := by omega
          have hIN : I < N := by omega
          have hjI : j + 1 = N ↔ I = 0 := by have := hNN.out; omega
          have hj0 : j = 0 ↔ I = N1 := by omega
          have f5' : Hid (∀ k < N, (run2 N C ov nw (j + 1)).blocked (k : Int) = (!nw && decide (0 < I) && decide (I ≤ k))) := by
            show ∀ k < N, _
            intro k hkN
            rw [f5 k hkN]
            congr 2
            exact decide_eq_decide.2 (by have := hNN.out; omega)
          have f42' : Hid ((x.2.2.2.2 == 7) = decide (I = 0)) := by
            show _ = _
            rw [Bool.eq_iff_iff, beq_iff_eq, f42, hjI, decide_eq_true_iff]
          have f41' : Hid (x.1 = 3 → x.2.2.2.1 = 7 ∧ nw = decide (I = N1) ∧ (nw = false → I = 0)) := by
            show _ → _
            intro h
            obtain ⟨a, b, c⟩ := f41 h
            exact ⟨a, by rw [b]; exact decide_eq_decide.2 hj0, fun h => hjI.1 (c h)⟩
          replace hkept := Lib.hid hkept
          replace f1 := Lib.hid f1
          replace f2 := Lib.hid f2
          replace he := Lib.hid he
          replace hIj := Lib.hid hIj
          replace hkb := Lib.hid hkb
          clear f5 f42 f41 f3 hI hI2 hjI hj0
          replace hj := Lib.hid hj
          go_wp2_with fail
          refine (bar11 7 nw _ w _ H.out).mono ?_
          rintro e w2 ⟨rfl, H1⟩
          replace H1 := Lib.hid H1
          clear H
          go_wp2_with fail
          refine (takes p _ N I (barF 7 nw) _ w _ H1.out f1.out (by rw [f2.out]; decide) _ _ _ he.out).mono ?_
          rintro e w3 ⟨rfl, H2⟩
          clear H1
          simp only [stv]
          go_upto_region 19 with (fail)
          have H3 := Lib.hid (H2.alloc (.cells #[.int .i64 x.1, .int .i64 x.2.1.1, .int .i64 x.2.1.2.1, .int .i64 x.2.1.2.2, .int .i64 x.2.2.1, .int .u64 x.2.2.2.1, .int .u64 x.2.2.2.2] 38))
          clear H2
          generalize World.alloc _ _ = w4 at H3 ⊢
          generalize w3.heap.size = bq at H3 ⊢
          have b0 : w4.cell? ⟨bq, 0, none⟩ = some (.int .i64 x.1) := H3.out.cellOf 0 rfl
          have b3 : w4.cell? ⟨bq, 5, none⟩ = some (.int .u64 x.2.2.2.1) := H3.out.cellOf 5 rfl
          have b4 : w4.cell? ⟨bq, 6, none⟩ = some (.int .u64 x.2.2.2.2) := H3.out.cellOf 6 rfl
          replace H3 := Lib.hid H3.out.tail
          obtain ⟨x1, xr, xm, xn, xf⟩ := x
          simp only at b0 b3 b4 f41' f42' hkept
          by_cases hx3 : x1 = 3
          · obtain ⟨e1, e2, e3⟩ := f41'.out hx3
            subst hx3 e1
            have hkp : Hid (kept2 N C ov nw (j + 1) = ko + 1) := by have := hkept.out; rw [if_pos rfl] at this; exact hkd.out.trans this
            clear hkept hkd f41'
            cases nw with
            | true =>
              have hIN1 : ((I : Int) == (N1 : Int)) = true := by have := of_decide_eq_true e2.symm; rw [beq_iff_eq]; omega
              have hI1 : (0 : Int) < (I : Int) := by have := of_decide_eq_true e2.symm; omega
              have hI2 : ((I : Int) == 0) = false := by rw [beq_eq_false_iff_ne]; omega
              have hf : (xf == 7) = false := by rw [f42'.out]; exact decide_eq_false (by omega)
              clear e2 e3 f42' he hkb
              go_wp2_with fail
              go_loopg [17] N (fun m iv wr => ∃ k : Nat, m + k = N ∧ iv = .int .i64 k ∧ Hid (wr = w4))
              case atStart => exact ⟨0, rfl, rfl, Lib.hid rfl⟩
              case round =>
                obtain ⟨k, hk2, rfl, hw0⟩ := hrel
                have hw0 := hw0.out
                subst hw0
                replace hk2 := Lib.hid hk2
                rcases Nat.lt_or_ge k N with hkN | hkN
                · have hb := f5'.out k hkN
                  have hkN1 : (k : Int) < (N : Int) := by omega
                  have hw6 : IntKind.i64.wrap ((k : Int) + 1) = ((k + 1 : Nat) : Int) := by rw [IntWalk.i64_in _ (by omega)]; omega
                  rw [show (!true && decide (0 < I) && decide (I ≤ k)) = false from by simp] at hb
                  replace hb := Lib.hid hb
                  go_wp2_with fail
                  refine (blocked13 p _ _ w _ H3.out k).mono ?_
                  rw [hb.out]
                  rintro e w5 ⟨rfl, rfl⟩
                  go_wp2_with fail
                  go_roundg (N - (k + 1))
                  case measure => have := hk2.out; omega
                  case rel => exact ⟨k + 1, by have := hk2.out; omega, by go_num, Lib.hid rfl⟩
                · have hk1 : decide ((k : Int) < (N : Int)) = false := by rw [decide_eq_false_iff_not]; omega
                  have hk3 : decide (k < N) = false := by rw [decide_eq_false_iff_not]; omega
                  clear hkN
                  go_wp2_with fail
                  go_roundg (N - (j + 1))
                  case measure => have := hk.out; have := hj.out; omega
                  case rel => exact ⟨j + 1, by have := hk.out; have := hj.out; omega, by have h7 := hIj.out; first | rfl | go_num, by rw [hkp.out] <;> first | rfl | go_num, H3⟩
            | false =>
              have hI1 := e3 rfl
              subst hI1
              have hI2 : ((0 : Int) == (N1 : Int)) = false := by rw [beq_eq_false_iff_ne]; omega
              have hf : (xf == 7) = true := by rw [f42'.out]; rfl
              clear e2 e3 f42' he hkb
              go_wp2_with fail
              go_loopg [17] N (fun m iv wr => ∃ k : Nat, m + k = N ∧ iv = .int .i64 k ∧ Hid (wr = w4))
              case atStart => exact ⟨0, rfl, rfl, Lib.hid rfl⟩
              case round =>
                obtain ⟨k, hk2, rfl, hw0⟩ := hrel
                have hw0 := hw0.out
                subst hw0
                replace hk2 := Lib.hid hk2
                rcases Nat.lt_or_ge k N with hkN | hkN
                · have hb := f5'.out k hkN
                  have hkN1 : (k : Int) < (N : Int) := by omega
                  have hw6 : IntKind.i64.wrap ((k : Int) + 1) = ((k + 1 : Nat) : Int) := by rw [IntWalk.i64_in _ (by omega)]; omega
                  rw [show (!false && decide (0 < 0) && decide (0 ≤ k)) = false from by simp] at hb
                  replace hb := Lib.hid hb
                  go_wp2_with fail
                  refine (blocked13 p _ _ w _ H3.out k).mono ?_
                  rw [hb.out]
                  rintro e w5 ⟨rfl, rfl⟩
                  go_wp2_with fail
                  go_roundg (N - (k + 1))
                  case measure => have := hk2.out; omega
                  case rel => exact ⟨k + 1, by have := hk2.out; omega, by go_num, Lib.hid rfl⟩
                · have hk1 : decide ((k : Int) < (N : Int)) = false := by rw [decide_eq_false_iff_not]; omega
                  have hk3 : decide (k < N) = false := by rw [decide_eq_false_iff_not]; omega
                  clear hkN
                  go_wp2_with fail
                  go_roundg (N - (j + 1))
                  case measure => have := hk.out; have := hj.out; omega
                  case rel => exact ⟨j + 1, by have := hk.out; have := hj.out; omega, by have h7 := hIj.out; first | rfl | go_num, by rw [hkp.out] <;> first | rfl | go_num, H3⟩
          · have hx3' : (x1 == 3) = false := by rw [beq_eq_false_iff_ne]; exact hx3
            have hkp : Hid (kept2 N C ov nw (j + 1) = ko) := by have := hkept.out; rw [if_neg hx3] at this; exact hkd.out.trans this
            clear hkept hkd f41' hx3
            rcases Nat.eq_zero_or_pos I with hI | hI
            · subst hI
              have hf : (xf == 7) = true := by rw [f42'.out]; rfl
              clear f42' he hkb
              cases nw with
              | true =>
                go_wp2_with fail
                go_loopg [17] N (fun m iv wr => ∃ k : Nat, m + k = N ∧ iv = .int .i64 k ∧ Hid (wr = w4))
                case atStart => exact ⟨0, rfl, rfl, Lib.hid rfl⟩
                case round =>
                  obtain ⟨k, hk2, rfl, hw0⟩ := hrel
                  have hw0 := hw0.out
                  subst hw0
                  replace hk2 := Lib.hid hk2
                  rcases Nat.lt_or_ge k N with hkN | hkN
                  · have hb := f5'.out k hkN
                    have hkN1 : (k : Int) < (N : Int) := by omega
                    have hw6 : IntKind.i64.wrap ((k : Int) + 1) = ((k + 1 : Nat) : Int) := by rw [IntWalk.i64_in _ (by omega)]; omega
                    rw [show (!true && decide (0 < 0) && decide (0 ≤ k)) = false from by simp] at hb
                    replace hb := Lib.hid hb
                    go_wp2_with fail
                    refine (blocked13 p _ _ w _ H3.out k).mono ?_
                    rw [hb.out]
                    rintro e w5 ⟨rfl, rfl⟩
                    go_wp2_with fail
                    go_roundg (N - (k + 1))
                    case measure => have := hk2.out; omega
                    case rel => exact ⟨k + 1, by have := hk2.out; omega, by go_num, Lib.hid rfl⟩
                  · have hk1 : decide ((k : Int) < (N : Int)) = false := by rw [decide_eq_false_iff_not]; omega
                    have hk3 : decide (k < N) = false := by rw [decide_eq_false_iff_not]; omega
                    clear hkN
                    go_wp2_with fail
                    go_roundg (N - (j + 1))
                    case measure => have := hk.out; have := hj.out; omega
                    case rel => exact ⟨j + 1, by have := hk.out; have := hj.out; omega, by have h7 := hIj.out; first | rfl | go_num, by rw [hkp.out] <;> first | rfl | go_num, H3⟩
              | false =>
                go_wp2_with fail
                go_loopg [17] N (fun m iv wr => ∃ k : Nat, m + k = N ∧ iv = .int .i64 k ∧ Hid (wr = w4))
                case atStart => exact ⟨0, rfl, rfl, Lib.hid rfl⟩
                case round =>
                  obtain ⟨k, hk2, rfl, hw0⟩ := hrel
                  have hw0 := hw0.out
                  subst hw0
                  replace hk2 := Lib.hid hk2
                  rcases Nat.lt_or_ge k N with hkN | hkN
                  · have hb := f5'.out k hkN
                    have hkN1 : (k : Int) < (N : Int) := by omega
                    have hw6 : IntKind.i64.wrap ((k : Int) + 1) = ((k + 1 : Nat) : Int) := by rw [IntWalk.i64_in _ (by omega)]; omega
                    rw [show (!false && decide (0 < 0) && decide (0 ≤ k)) = false from by simp] at hb
                    replace hb := Lib.hid hb
                    go_wp2_with fail
                    refine (blocked13 p _ _ w _ H3.out k).mono ?_
                    rw [hb.out]
                    rintro e w5 ⟨rfl, rfl⟩
                    go_wp2_with fail
                    go_roundg (N - (k + 1))
                    case measure => have := hk2.out; omega
                    case rel => exact ⟨k + 1, by have := hk2.out; omega, by go_num, Lib.hid rfl⟩
                  · have hk1 : decide ((k : Int) < (N : Int)) = false := by rw [decide_eq_false_iff_not]; omega
                    have hk3 : decide (k < N) = false := by rw [decide_eq_false_iff_not]; omega
                    clear hkN
                    go_wp2_with fail
                    go_roundg (N - (j + 1))
                    case measure => have := hk.out; have := hj.out; omega
                    case rel => exact ⟨j + 1, by have := hk.out; have := hj.out; omega, by have h7 := hIj.out; first | rfl | go_num, by rw [hkp.out] <;> first | rfl | go_num, H3⟩
            · have hI1 : (0 : Int) < (I : Int) := by omega
              have hI2 : ((I : Int) == 0) = false := by rw [beq_eq_false_iff_ne]; omega
              have hf : (xf == 7) = false := by rw [f42'.out]; exact decide_eq_false (by omega)
              clear f42' he hkb hI
              cases nw with
              | true =>
                go_wp2_with fail
                go_loopg [17] N (fun m iv wr => ∃ k : Nat, m + k = N ∧ iv = .int .i64 k ∧ Hid (wr = w4))
                case atStart => exact ⟨0, rfl, rfl, Lib.hid rfl⟩
                case round =>
                  obtain ⟨k, hk2, rfl, hw0⟩ := hrel
                  have hw0 := hw0.out
                  subst hw0
                  replace hk2 := Lib.hid hk2
                  rcases Nat.lt_or_ge k N with hkN | hkN
                  · have hb := f5'.out k hkN
                    have hkN1 : (k : Int) < (N : Int) := by omega
                    have hw6 : IntKind.i64.wrap ((k : Int) + 1) = ((k + 1 : Nat) : Int) := by rw [IntWalk.i64_in _ (by omega)]; omega
                    rw [show (!true && decide (0 < I) && decide (I ≤ k)) = false from by simp] at hb
                    replace hb := Lib.hid hb
                    go_wp2_with fail
                    refine (blocked13 p _ _ w _ H3.out k).mono ?_
                    rw [hb.out]
                    rintro e w5 ⟨rfl, rfl⟩
                    go_wp2_with fail
                    go_roundg (N - (k + 1))
                    case measure => have := hk2.out; omega
                    case rel => exact ⟨k + 1, by have := hk2.out; omega, by go_num, Lib.hid rfl⟩
                  · have hk1 : decide ((k : Int) < (N : Int)) = false := by rw [decide_eq_false_iff_not]; omega
                    have hk3 : decide (k < N) = false := by rw [decide_eq_false_iff_not]; omega
                    clear hkN
                    go_wp2_with fail
                    go_roundg (N - (j + 1))
                    case measure => have := hk.out; have := hj.out; omega
                    case rel => exact ⟨j + 1, by have := hk.out; have := hj.out; omega, by have h7 := hIj.out; first | rfl | go_num, by rw [hkp.out] <;> first | rfl | go_num, H3⟩
              | false =>
                go_wp2_with fail
                go_loopg [17] N (fun m iv wr => ∃ k : Nat, m + k = N ∧ iv = .int .i64 k ∧ Hid (wr = w4))
                case atStart => exact ⟨0, rfl, rfl, Lib.hid rfl⟩
                case round =>
                  obtain ⟨k, hk2, rfl, hw0⟩ := hrel
                  have hw0 := hw0.out
                  subst hw0
                  replace hk2 := Lib.hid hk2
                  rcases Nat.lt_or_ge k N with hkN | hkN
                  · have hb := f5'.out k hkN
                    have hkN1 : (k : Int) < (N : Int) := by omega
                    have hw6 : IntKind.i64.wrap ((k : Int) + 1) = ((k + 1 : Nat) : Int) := by rw [IntWalk.i64_in _ (by omega)]; omega
                    rcases Nat.lt_or_ge k I with hkI | hkI
                    · rw [show (!false && decide (0 < I) && decide (I ≤ k)) = false from by simp; omega] at hb
                      replace hb := Lib.hid hb
                      have d1 : decide ((I : Int) ≤ (k : Int)) = false := by rw [decide_eq_false_iff_not]; omega
                      go_wp2_with fail
                      refine (blocked13 p _ _ w _ H3.out k).mono ?_
                      rw [hb.out]
                      rintro e w5 ⟨rfl, rfl⟩
                      go_wp2_with fail
                      go_roundg (N - (k + 1))
                      case measure => have := hk2.out; omega
                      case rel => exact ⟨k + 1, by have := hk2.out; omega, by go_num, Lib.hid rfl⟩
                    · rw [show (!false && decide (0 < I) && decide (I ≤ k)) = true from by simp; omega] at hb
                      replace hb := Lib.hid hb
                      have d1 : (I : Int) ≤ (k : Int) := by omega
                      go_wp2_with fail
                      refine (blocked13 p _ _ w _ H3.out k).mono ?_
                      rw [hb.out]
                      rintro e w5 ⟨rfl, rfl⟩
                      go_wp2_with fail
                      go_roundg (N - (k + 1))
                      case measure => have := hk2.out; omega
                      case rel => exact ⟨k + 1, by have := hk2.out; omega, by go_num, Lib.hid rfl⟩
                  · have hk1 : decide ((k : Int) < (N : Int)) = false := by rw [decide_eq_false_iff_not]; omega
                    have hk3 : decide (k < N) = false := by rw [decide_eq_false_iff_not]; omega
                    clear hkN
                    go_wp2_with fail
                    go_roundg (N - (j + 1))
                    case measure => have := hk.out; have := hj.out; omega
                    case rel => exact ⟨j + 1, by have := hk.out; have := hj.out; omega, by have h7 := hIj.out; first | rfl | go_num, by rw [hkp.out] <;> first | rfl | go_num, H3⟩
        · have hj1 : decide ((0 : Int) ≤ (N1 : Int) - (j : Int)) = false := by rw [decide_eq_false_iff_not]; have := hk.out; have := hNN.out; omega
          have hj2 : decide ((j : Int) ≤ (N1 : Int)) = false := by rw [decide_eq_false_iff_not]; have := hk.out; have := hNN.out; omega
          have hj3 : decide (j ≤ N1) = false := by rw [decide_eq_false_iff_not]; have := hk.out; have := hNN.out; omega
          have hjN : j = N := by have := hk.out; omega
          rw [hjN] at H
          have hkp : Hid (kept2 N C ov nw j = 1) := by
            have := (newer4 N hN8 hN2 C hCN hC1 ov nw).2.2.1
            rw [hjN]
            exact Lib.hid this
          obtain ⟨f1, f2, _, f4, f5, f6⟩ := newer4 N hN8 hN2 C hCN hC1 ov nw
          rw [show N - 1 = N1 from by have := hNN.out; omega] at f4 f5 f6
          obtain ⟨s', hs'⟩ : ∃ s', ((run2 N C ov nw N).take (N1 : Int) (barF 4 ov)).1 = s' := ⟨_, rfl⟩
          have he : (run2 N C ov nw N).take (N1 : Int) (barF 4 ov) = (s', noStep, 0) := Prod.ext hs' f4
          rw [hs'] at f5 f6
          replace f1 := Lib.hid f1
          replace f2 := Lib.hid f2
          replace f5 := Lib.hid f5
          replace f6 := Lib.hid f6
          replace he := Lib.hid he
          rw [hkp.out]
          clear f4 hs' hjN hj
          go_wp2_with fail
          refine (bar11 4 ov _ w _ H.out).mono ?_
          rintro e w2 ⟨rfl, H1⟩
          replace H1 := Lib.hid H1
          clear H
          go_wp2_with fail
          refine (takes p _ N N1 (barF 4 ov) _ w _ H1.out f1.out (by rw [f2.out]; decide) _ _ _ he.out).mono ?_
          rintro e w3 ⟨rfl, H2⟩
          clear H1
          simp only [stv, noStep]
          go_upto_region 33 with (fail)
          have H3 := Lib.hid (H2.alloc (.cells #[.int .i64 0, .int .i64 0, .int .i64 0, .int .i64 0, .int .i64 0, .int .u64 0, .int .u64 0] 38))
          clear H2
          generalize World.alloc _ _ = w4 at H3 ⊢
          generalize w3.heap.size = bq at H3 ⊢
          have b0 : w4.cell? ⟨bq, 0, none⟩ = some (.int .i64 0) := H3.out.cellOf 0 rfl
          have b1 : w4.cell? ⟨bq, 1, none⟩ = some (.int .i64 0) := H3.out.cellOf 1 rfl
          have b2 : w4.cell? ⟨bq, 2, none⟩ = some (.int .i64 0) := H3.out.cellOf 2 rfl
          have b3 : w4.cell? ⟨bq, 3, none⟩ = some (.int .i64 0) := H3.out.cellOf 3 rfl
          have b4 : w4.cell? ⟨bq, 4, none⟩ = some (.int .i64 0) := H3.out.cellOf 4 rfl
          have b5 : w4.cell? ⟨bq, 5, none⟩ = some (.int .u64 0) := H3.out.cellOf 5 rfl
          have b6 : w4.cell? ⟨bq, 6, none⟩ = some (.int .u64 0) := H3.out.cellOf 6 rfl
          replace H3 := Lib.hid H3.out.tail
          go_wp2_with fail
          refine (under20 p _ _ w _ H3.out).mono ?_
          rw [f5.out]
          rintro e w2 ⟨rfl, rfl⟩
          go_wp2_with fail
          refine (last21 p _ _ w _ H3.out).mono ?_
          rw [f6.out]
          rintro e w2 ⟨rfl, rfl⟩
          go_wp2_with fail
          go_ret
          exact ⟨rfl, H3.out.tail.under_old⟩
end Go.Proofs.Ytlhgmfdmkckmhaa

import Derived.Test.YthjinahfhpgpmaaWa
import Derived.IntWalk
import Derived.Test.YthjinahfhpgpmaaProg
import Derived.Test.YthjinahfhpgpmaaLs
import Derived.Outline
import Derived.StillTailTactics
import Derived.Deep.DeepCutAuto
import Derived.Deep.CutBlock
import Derived.Deep.LoopGhost
import Derived.Deep.QuietTactic
import Derived.BigQuiet
import Derived.Deep.RegionHeld3
import Derived.Deep.RegionLaw
set_option linter.unusedVariables false
set_option linter.unusedSimpArgs false
namespace Go.Proofs.Ythjinahfhpgpmaa
open Go.RowKit
set_option maxRecDepth 100000 in
set_option maxHeartbeats 8000000 in
theorem coordwaits_walk (n0 i0 t0 f0 : Int) (w : World) (hn : (Lit.int .i64 n0).wf = true) (hi : (Lit.int .i64 i0).wf = true) (ht : (Lit.int .i64 t0).wf = true) (hf : (Lit.int .i64 f0).wf = true) :
    Calls Try.prog 7 #[.int .i64 n0, .int .i64 i0, .int .i64 t0, .int .i64 f0] w fun e w' => e = .returned (.bool true) ∧ Below w.heap.size w w' := by
  clear hn hi ht hf
  obtain ⟨m, hm⟩ : ∃ m : Nat, n0 % 5 = (m : Int) := ⟨(n0 % 5).toNat, by omega⟩
  obtain ⟨N, hN⟩ : ∃ N, N = m + 2 := ⟨_, rfl⟩
  obtain ⟨N1, hN1⟩ : ∃ N1, N1 = m + 1 := ⟨_, rfl⟩
  obtain ⟨i1, hi1⟩ : ∃ i1 : Nat, i0 % 5 = (i1 : Int) := ⟨(i0 % 5).toNat, by omega⟩
  obtain ⟨I, hI⟩ : ∃ I, I = i1 + 1 := ⟨_, rfl⟩
  obtain ⟨t1, ht1⟩ : ∃ t1 : Nat, t0 % 9 = (t1 : Int) := ⟨(t0 % 9).toNat, by omega⟩
  obtain ⟨T, hT⟩ : ∃ T, T = t1 + 1 := ⟨_, rfl⟩
  obtain ⟨M, hM⟩ : ∃ M : Nat, f0 % 5 = (M : Int) := ⟨(f0 % 5).toNat, by omega⟩
  have hw1 : IntKind.i64.wrap (2 + (m : Int)) = (N : Int) := by rw [IntWalk.i64_in _ (by omega)]; omega
  have hw2 : IntKind.i64.wrap (1 + (i1 : Int)) = (I : Int) := by rw [IntWalk.i64_in _ (by omega)]; omega
  have hw3 : IntKind.i64.wrap (1 + (t1 : Int)) = (T : Int) := by rw [IntWalk.i64_in _ (by omega)]; omega
  have hw4 : IntKind.i64.wrap ((N : Int) - 1) = (N1 : Int) := by rw [IntWalk.i64_in _ (by omega)]; omega
  have hNN : Hid (2 ≤ N ∧ N < 9 ∧ N1 + 1 = N) := by show _ ∧ _; omega
  have hI9 : Hid (1 ≤ I ∧ I ≤ 5) := by show _ ∧ _; omega
  have hT9 : Hid (1 ≤ T ∧ T ≤ 9) := by show _ ∧ _; omega
  have hM9 : Hid (M < 5) := by show _ < _; omega
  have hcI : Hid (clampC I = I) := by show min (max (I : Int) 1) 1000 = I; omega
  have hcT : Hid (clampC T = T) := by show min (max (T : Int) 1) 1000 = T; omega
  replace hm := Lib.hid hm
  replace hi1 := Lib.hid hi1
  replace ht1 := Lib.hid ht1
  replace hM := Lib.hid hM
  clear hN hN1 hI hT
  go_enter Try.func7, Try.ntmps7
  go_wp2_with fail
  refine (known8 w w _ (Hs.start w)).mono ?_
  rintro e w1 ⟨rfl, H⟩
  go_wp2_with fail
  refine (place9 n0 5 _ (by omega) (by omega)).mono ?_
  rw [hm.out]
  rintro e w2 ⟨rfl, rfl⟩
  go_wp2_with fail
  refine (place9 i0 5 _ (by omega) (by omega)).mono ?_
  rw [hi1.out]
  rintro e w2 ⟨rfl, rfl⟩
  go_wp2_with fail
  refine (place9 t0 9 _ (by omega) (by omega)).mono ?_
  rw [ht1.out]
  rintro e w2 ⟨rfl, rfl⟩
  go_wp2_with fail
  refine (place9 f0 5 _ (by omega) (by omega)).mono ?_
  rw [hM.out]
  rintro e w2 ⟨rfl, rfl⟩
  go_wp2_with fail
  refine (ready16 N (by have := hNN.out; omega) hNN.out.2.1 I T _ w _ H).mono ?_
  rw [hcI.out, hcT.out]
  rintro e w2 ⟨p, v, rfl, H1⟩
  replace H1 := Lib.hid H1
  clear H hcI hcT hw1 hw2 hw3
  have hlenN : Hid ((iota N).length ≤ 1000) := by show _ ≤ _; rw [iota_len]; have := hNN.out; omega
  have hst : Hid (Idle N I T 0 T 0 (Rk N N I T) ∨ Begun N I T 0 T (Rk N N I T)) := .inl ⟨0, nobody, 0, 0, 0, rfl, by omega, by omega, by omega, by omega, by omega, by omega, by omega, by omega, by have := hI9.out; omega⟩
  have hwb : Hid (1 ≤ T ∧ T ≤ wb 0) := ⟨hT9.out.1, by show T ≤ 9; exact hT9.out.2⟩
  go_wp2_with fail
  go_loopg [10, 11] M (fun k ov iv wr => ∃ (j W : Nat) (c : Co), k + j = M ∧ iv = .int .i64 j ∧ ov = .int .i64 W ∧ Hid (1 ≤ W ∧ W ≤ wb j) ∧ Hid (Idle N I T j W 0 c ∨ Begun N I T j W c) ∧ Hid (Hs w wr [CoV p v c, Old w]))
  case atStart => exact ⟨0, T, _, rfl, rfl, rfl, hwb, hst, H1⟩
  case round =>
    clear H1 hst hwb
    obtain ⟨j, W, c, hk, rfl, rfl, hW, hS, H⟩ := hrel
    have hjM : (j : Int) ≤ (M : Int) := by omega
    replace hk := Lib.hid hk
    have hW3 : Hid (W ≤ 144) := by show _ ≤ _; have := wb_le j (by have := hk.out; have := hM9.out; omega); have := hW.out; omega
    go_wp2_with fail
    go_loopg [12] I (fun m iv wr => ∃ (q : Nat) (c : Co), m + q = I ∧ iv = .int .i64 q ∧ Hid (Idle N I T j W q c ∨ Begun N I T j W c) ∧ Hid (Hs w wr [CoV p v c, Old w]))
    case atStart => exact ⟨0, c, rfl, rfl, hS, H⟩
    case round =>
      clear H hS
      clear c
      obtain ⟨q, c, hq, rfl, hS, H⟩ := hrel
      replace hq := Lib.hid hq
      rcases hS.out with hS1 | hS1
      · have hF := Lib.hid (idle_facts (by have := hI9.out; omega) (by have := hk.out; have := hM9.out; omega) (by have := hT9.out; omega) (by have := hW3.out; omega) hS1)
        have hS2 := Lib.hid (idle_tick (by have := hI9.out; omega) hS1)
        have hqI : decide ((I : Int) < (q : Int)) = false := by rw [decide_eq_false_iff_not]; have := hF.out.2.2.2.2; omega
        have hqI2 : decide (I < q) = false := by rw [decide_eq_false_iff_not]; have := hF.out.2.2.2.2; omega
        have hwq : IntKind.i64.wrap ((q : Int) + 1) = ((q + 1 : Nat) : Int) := by rw [IntWalk.i64_in _ (by have := hF.out.2.2.2.2; have := hI9.out; omega)]; omega
        clear hS hS1
        go_wp2_with fail
        refine (under17 p v c _ w _ H.out).mono ?_
        rw [hF.out.1]
        rintro e w4 ⟨rfl, rfl⟩
        go_wp2_with fail
        refine (ticks12 p v c _ w _ H.out 5000 100 hF.out.2.1 (by decide) (by decide) (by rw [hF.out.2.2.1]; exact hlenN.out) (by rw [hF.out.2.2.2.1]; decide)).mono ?_
        rintro e w5 ⟨A1, c1, rfl, H3⟩
        replace H3 := Lib.hid H3.tail
        clear H
        go_wp2_with fail
        go_roundg (I - (q + 1))
        case measure => have := hF.out.2.2.2.2; have := hq.out; omega
        case rel => exact ⟨q + 1, c.tick.1, by have := hF.out.2.2.2.2; omega, by go_num, hS2, H3⟩
      · obtain ⟨L, t, rfl, g1, g2, g3, g4⟩ := hS1
        have hL0 : (L == 0) = false := by rw [beq_eq_false_iff_ne]; omega
        have hg : Hid (0 ≤ t ∧ t ≤ 500 * j + 10) := ⟨g1, g2⟩
        have hgL : Hid (1 ≤ L ∧ L ≤ 2 * j + 1) := ⟨g3, g4⟩
        have hnob : nobody = upto 0 := by
          funext x
          show false = _
          unfold upto
          rw [eq_comm, decide_eq_false_iff_not]
          omega
        rw [hnob] at H
        clear hS g1 g2 g3 g4 hnob hq
        go_wp2_with fail
        refine (under17 p v _ _ w _ H.out).mono ?_
        simp only [Wt]
        rintro e w4 ⟨rfl, rfl⟩
        go_wp2_with fail
        refine (under17 p v _ _ w _ H.out).mono ?_
        simp only [Wt]
        rintro e w4 ⟨rfl, rfl⟩
        go_wp2_with fail
        refine (timeout21 p v _ _ w _ H.out).mono ?_
        simp only [Wt]
        rintro e w4 ⟨rfl, rfl⟩
        change Hid (Hs w _ [CoV p v (Wt N I T L (upto 0) L W t t t false), Old w]) at H
        by_cases hjm : j = M
        · subst hjm
          go_wp2_with fail
          go_loopg [14] N (fun m iv wr => ∃ q : Nat, m + q = N ∧ iv = .int .i64 q ∧ Hid (Hs w wr [CoV p v (Wt N I T L (upto q) L W t t t (decide (q = N))), Old w]))
          case atStart => exact ⟨0, rfl, rfl, by rw [decide_eq_false (by have := hNN.out; omega)]; exact H⟩
          case round =>
            clear H
            obtain ⟨q, hq, rfl, H⟩ := hrel
            replace hq := Lib.hid hq
            rcases Nat.lt_or_ge q N with hqN | hqN
            · have hq1 : (q : Int) < (N : Int) := by omega
              have hwq : IntKind.i64.wrap ((q : Int) + 1) = ((q + 1 : Nat) : Int) := by rw [IntWalk.i64_in _ (by have := hNN.out; omega)]; omega
              obtain ⟨rv, hta⟩ : ∃ rv, (Wt N I T L (upto q) L W t t t false).take (2, 1, L, (q : Int)) = (Wt N I T L (upto (q + 1)) L W t t t (decide (q + 1 = N)), rv) := ⟨_, wt_ack q hqN (by have := hgL.out; omega) hNN.out.1⟩
              replace hta := Lib.hid hta
              rw [decide_eq_false (show ¬ q = N by omega)] at H
              go_wp2_with fail
              refine (take14 p v _ _ w _ H.out 2 1 L q hlenN.out).mono ?_
              rw [hta.out]
              rintro e w5 ⟨rfl, H3⟩
              replace H3 := Lib.hid H3
              clear H hta
              go_wp2_with fail
              go_roundg (N - (q + 1))
              case measure => have := hq.out; omega
              case rel => exact ⟨q + 1, by have := hq.out; omega, by go_num, H3⟩
            · have hq1 : decide ((q : Int) < (N : Int)) = false := by rw [decide_eq_false_iff_not]; omega
              have hq3 : decide (q < N) = false := by rw [decide_eq_false_iff_not]; omega
              have hqN2 : q = N := by have := hq.out; omega
              rw [decide_eq_true hqN2] at H
              clear hqN hq hqN2
              go_wp2_with fail
              refine (stored15 p v _ _ w _ H.out L true (by show 1 ≤ 1000; decide)).mono ?_
              have hso : (Wt N I T L (upto q) L W t t t true).store L true = (((Wt N I T L (upto q) L W t t t true).put L), (((Wt N I T L (upto q) L W t t t true).put L).tell 3 L [0] nobody)) := by
                unfold Co.store
                rw [if_neg (by rintro (h | h); cases h; exact h rfl), if_pos rfl]
                rfl
              rw [hso]
              rintro e w5 ⟨A1, c1, rfl, H3⟩
              replace H3 := Lib.hid H3.tail
              clear H hso
              go_wp2_with fail
              refine (timeout21 p v _ _ w _ H3.out).mono ?_
              simp only [Wt, Co.put]
              rintro e w6 ⟨rfl, rfl⟩
              go_wp2_with fail
              refine (durable13 p v _ _ w _ H3.out).mono ?_
              simp only [Wt, Co.put]
              rintro e w6 ⟨rfl, rfl⟩
              go_wp2_with fail
              refine (under17 p v _ _ w _ H3.out).mono ?_
              simp only [Wt, Co.put]
              rintro e w6 ⟨rfl, rfl⟩
              go_wp2_with fail
              go_ret
              exact ⟨rfl, H3.out.tail.under_old⟩
        · have hjm1 : ((j : Int) == (M : Int)) = false := by rw [beq_eq_false_iff_ne]; omega
          have hjm2 : Hid (j + 1 ≤ M) := by show _ ≤ _; omega
          clear hjm
          go_wp2_with fail
          go_loopg [15] N1 (fun m iv wr => ∃ q : Nat, m + q = N1 ∧ iv = .int .i64 q ∧ Hid (Hs w wr [CoV p v (Wt N I T L (upto q) L W t t t false), Old w]))
          case atStart => exact ⟨0, rfl, rfl, H⟩
          case round =>
            clear H
            obtain ⟨q, hq, rfl, H⟩ := hrel
            replace hq := Lib.hid hq
            rcases Nat.lt_or_ge q N1 with hqN | hqN
            · have hq1 : (q : Int) < (N1 : Int) := by omega
              have hwq : IntKind.i64.wrap ((q : Int) + 1) = ((q + 1 : Nat) : Int) := by rw [IntWalk.i64_in _ (by have := hNN.out; omega)]; omega
              obtain ⟨rv, hta⟩ : ∃ rv, (Wt N I T L (upto q) L W t t t false).take (2, 1, L, (q : Int)) = (Wt N I T L (upto (q + 1)) L W t t t false, rv) := ⟨_, by rw [wt_ack q (by have := hNN.out; omega) (by have := hgL.out; omega) hNN.out.1, decide_eq_false (show ¬ q + 1 = N by have := hNN.out; omega)]⟩
              replace hta := Lib.hid hta
              go_wp2_with fail
              refine (take14 p v _ _ w _ H.out 2 1 L q hlenN.out).mono ?_
              rw [hta.out]
              rintro e w5 ⟨rfl, H3⟩
              replace H3 := Lib.hid H3
              clear H hta
              go_wp2_with fail
              go_roundg (N1 - (q + 1))
              case measure => have := hq.out; omega
              case rel => exact ⟨q + 1, by have := hq.out; omega, by go_num, H3⟩
            · have hq1 : decide ((q : Int) < (N1 : Int)) = false := by rw [decide_eq_false_iff_not]; omega
              have hq3 : decide (q < N1) = false := by rw [decide_eq_false_iff_not]; omega
              have hqN2 : q = N1 := by have := hq.out; omega
              have hD : Hid (Down N I T W L t (upto q) 0 (Wt N I T L (upto q) L W t t t false)) := .inl ⟨by have := hW.out; omega, by rw [show t + ((0 : Nat) : Int) = t by omega]⟩
              clear hqN hq hqN2
              go_wp2_with fail
              clear hq1 hq3
              go_loopg [16] W (fun m iv wr => ∃ (x r : Nat) (c : Co), m + r = W ∧ Hid (x = r + 1) ∧ iv = .int .i64 (x : Int) ∧ Hid (Down N I T W L t (upto q) r c) ∧ Hid (Hs w wr [CoV p v c, Old w]))
              case atStart => exact ⟨1, 0, _, rfl, Lib.hid rfl, rfl, hD, H⟩
              case round =>
                clear H hD
                obtain ⟨x, r, c, hr, hx, rfl, hD, H⟩ := hrel
                replace hr := Lib.hid hr
                rcases Nat.lt_or_ge r W with hrW | hrW
                · have hr1 : (x : Int) ≤ (W : Int) := by have := hx.out; omega
                  have hwq : IntKind.i64.wrap ((x : Int) + 1) = ((x + 1 : Nat) : Int) := by rw [IntWalk.i64_in _ (by have := hW3.out; have := hx.out; omega)]; omega
                  have hF := Lib.hid (down_facts (by have := hk.out; have := hM9.out; omega) hgL.out hg.out (by have := hT9.out; omega) (by have := hW3.out; omega) hrW hD.out)
                  have hD2 := Lib.hid (down_tick (by have := hgL.out; omega) (by have := hW3.out; omega) hrW hD.out)
                  clear hD
                  go_wp2_with fail
                  refine (under17 p v c _ w _ H.out).mono ?_
                  rw [hF.out.1]
                  rintro e w5 ⟨rfl, rfl⟩
                  go_wp2_with fail
                  refine (ticks12 p v c _ w _ H.out 5000 100 hF.out.2.1 (by decide) (by decide) (by rw [hF.out.2.2.1]; exact hlenN.out) (by rw [hF.out.2.2.2]; decide)).mono ?_
                  rintro e w5 ⟨A1, c1, rfl, H3⟩
                  replace H3 := Lib.hid H3.tail
                  clear H
                  go_wp2_with fail
                  go_roundg (W - (r + 1))
                  case measure => have := hr.out; omega
                  case rel => exact ⟨x + 1, r + 1, c.tick.1, by have := hr.out; omega, by show _ = _; have := hx.out; omega, by go_num, hD2, H3⟩
                · have hr1 : decide ((x : Int) ≤ (W : Int)) = false := by rw [decide_eq_false_iff_not]; have := hx.out; omega
                  have hr3 : decide (x ≤ W) = false := by rw [decide_eq_false_iff_not]; have := hx.out; omega
                  have hG : Gone N I T W L t (upto q) c := by
                    rcases hD.out with h | h
                    · omega
                    · exact h.2
                  have hGF := Lib.hid (gone_facts (j := j) (by have := hI9.out; omega) hgL.out hg.out (by have := hW3.out; omega) hW.out.1 N1 hG)
                  obtain ⟨U, hU⟩ : ∃ U, c.under = U := ⟨_, rfl⟩
                  have hUL : (U == L) = false := by rw [← hU, beq_eq_false_iff_ne]; exact hGF.out.1
                  replace hU := Lib.hid hU
                  have hw2 : IntKind.i64.wrap (2 * (W : Int)) = ((2 * W : Nat) : Int) := by rw [IntWalk.i64_in _ (by have := hW3.out; omega)]; omega
                  have hwj : IntKind.i64.wrap ((j : Int) + 1) = ((j + 1 : Nat) : Int) := by rw [IntWalk.i64_in _ (by have := hk.out; have := hM9.out; omega)]; omega
                  clear hD hG hrW
                  go_wp2_with fail
                  refine (under17 p v c _ w _ H.out).mono ?_
                  rw [hU.out]
                  rintro e w5 ⟨rfl, rfl⟩
                  go_wp2_with fail
                  refine (take14 p v c _ w _ H.out 2 1 L N1 (by rw [hGF.out.2.2.1]; exact hlenN.out)).mono ?_
                  rw [hGF.out.2.1]
                  rintro e w5 ⟨rfl, H3⟩
                  replace H3 := Lib.hid H3
                  clear H
                  go_wp2_with fail
                  go_roundg (M - (j + 1))
                  case measure => have := hjm2.out; have := hk.out; omega
                  case rel => exact ⟨j + 1, 2 * W, c, by have := hjm2.out; omega, by go_num, by go_num, ⟨by have := hW.out; omega, by have := hW.out; show 2 * W ≤ 2 * wb j; omega⟩, hGF.out.2.2.2, H3⟩
end Go.Proofs.Ythjinahfhpgpmaa

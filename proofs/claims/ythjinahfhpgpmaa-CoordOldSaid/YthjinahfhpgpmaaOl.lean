import Derived.Test.YthjinahfhpgpmaaBd
import Derived.IntWalk
import Derived.Test.YthjinahfhpgpmaaProg
import Derived.Test.YthjinahfhpgpmaaLs
import Derived.Outline
import Derived.StillTailTactics
import Derived.Deep.DeepCutAuto
import Derived.Deep.CutBlock
import Derived.Deep.LoopGhost
import Derived.Deep.QuietTactic
import Derived.BigQuiet
import Derived.Deep.RegionHeld3
import Derived.Deep.RegionLaw
set_option linter.unusedVariables false
set_option linter.unusedSimpArgs false
namespace Go.Proofs.Ythjinahfhpgpmaa
open Go.RowKit
theorem take_out (s : Co) (kd ep nn tk : Int) (h : ep ≠ s.epoch ∨ s.tasks.contains tk = false) : s.take (kd, ep, nn, tk) = (s, 0) := by
  unfold Co.take
  rw [if_pos (by rcases h with h | h; exact .inl h; exact .inr (.inr h))]
theorem take_num (s : Co) (ep nn tk : Int) (h : nn ≠ s.under) : s.take (2, ep, nn, tk) = (s, 0) := by
  unfold Co.take
  split
  · rfl
  rw [if_neg (fun h => absurd h.1 (by show (2 : Int) ≠ 6; decide)), if_neg (fun h' => h h'.2.2.1), if_neg (fun h => absurd h.1 (by show (2 : Int) ≠ 4; decide))]
set_option maxRecDepth 100000 in
set_option maxHeartbeats 8000000 in
theorem coordold_walk (n0 : Int) (Al : Option Addr) (nl cl : Nat) (xs : List Ctl) (t0 : Int) (w : World) (hn : (Lit.int .i64 n0).wf = true) (hr : RdL ECtl w (.slice Al nl cl) xs) (hok : ∀ x ∈ xs, True) (ht : (Lit.int .i64 t0).wf = true) :
    Calls Try.prog 4 #[.int .i64 n0, .slice Al nl cl, .int .i64 t0] w fun e w' => e = .returned (.bool true) ∧ Below w.heap.size w w' := by
  clear hn ht hok
  obtain ⟨m, hm⟩ : ∃ m : Nat, n0 % 5 = (m : Int) := ⟨(n0 % 5).toNat, by omega⟩
  obtain ⟨N, hN⟩ : ∃ N, N = m + 2 := ⟨_, rfl⟩
  obtain ⟨M, hM⟩ : ∃ M : Nat, t0 % 9 = (M : Int) := ⟨(t0 % 9).toNat, by omega⟩
  have hw1 : IntKind.i64.wrap (2 + (m : Int)) = (N : Int) := by rw [IntWalk.i64_in _ (by omega)]; omega
  have hN1 : 1 ≤ N := by omega
  have hN9 : N < 9 := by omega
  have hM9 : M < 9 := by omega
  replace hm := Lib.hid hm
  replace hM := Lib.hid hM
  clear hN
  have hcap := hr.caps.2
  have hxl := Lib.hid hr.caps.1
  replace hr := Lib.hid hr
  rcases (show (200 : Int) < (nl : Int) ∨ (nl : Int) ≤ 200 by omega) with h3 | h3
  · go_enter Try.func4, Try.ntmps4
    go_wp2_with fail
    refine (known8 w w _ (Hs.start w)).mono ?_
    rintro e w1 ⟨rfl, H⟩
    go_wp2_with fail
    refine (place9 n0 5 _ (by omega) (by omega)).mono ?_
    rw [hm.out]
    rintro e w2 ⟨rfl, rfl⟩
    go_wp2_with fail
    go_ret
    exact ⟨rfl, H.under_old⟩
  go_enter Try.func4, Try.ntmps4
  go_wp2_with fail
  refine (known8 w w _ (Hs.start w)).mono ?_
  rintro e w1 ⟨rfl, H⟩
  go_wp2_with fail
  refine (place9 n0 5 _ (by omega) (by omega)).mono ?_
  rw [hm.out]
  rintro e w2 ⟨rfl, rfl⟩
  go_wp2_with fail
  refine (ready16 N hN1 hN9 2 50 _ w _ H).mono ?_
  rintro e w2 ⟨pa, va, rfl, H1⟩
  go_wp2_with fail
  refine (ready16 N hN1 hN9 2 50 _ w _ H1).mono ?_
  rw [show clampC 2 = 2 from rfl, show clampC 50 = 50 from rfl]
  rw [show clampC 2 = 2 from rfl, show clampC 50 = 50 from rfl] at H1
  rintro e w3 ⟨pb, vb, rfl, H2⟩
  replace H2 := Lib.hid H2.at1
  clear H H1
  go_wp2_with fail
  refine (place9 t0 9 _ (by omega) (by omega)).mono ?_
  rw [hM.out]
  rintro e w4 ⟨rfl, rfl⟩
  have hI : Hid (Bd (Rk N N 2 50) ((0 : Nat) : Int) ((0 : Nat) : Int) ∧ Same (Rk N N 2 50) (Rk N N 2 50) ∧ (Rk N N 2 50).epoch = 1) := ⟨rk_bd N N 2 50 (by decide), Same.refl _, rfl⟩
  have hlen : ∀ s, Same (Rk N N 2 50) s → s.tasks.length ≤ 1000 ∧ s.sinks.length ≤ 1000 := fun s h => by
    rw [h.tasks, h.sinks]
    exact ⟨by show (iota N).length ≤ 1000; rw [iota_len]; omega, by show 1 ≤ 1000; decide⟩
  replace hlen := Lib.hid hlen
  go_wp2_with fail
  go_loopg [9] (M + 1) (fun k iv wr => ∃ (j : Nat) (s : Co), k + j = M + 1 ∧ iv = .int .i64 ((M : Int) - (j : Int)) ∧ Hid (Bd s j j ∧ Same (Rk N N 2 50) s ∧ s.epoch = 1) ∧ Hid (Hs w wr [CoV pa va s, CoV pb vb s, Old w]))
  case atStart => exact ⟨0, _, rfl, by simp, hI, H2⟩
  case round =>
    clear H2 hI
    obtain ⟨j, s, hk, rfl, hI, H⟩ := hrel
    replace hk := Lib.hid hk
    rcases Nat.lt_or_ge j (M + 1) with hj | hj
    · obtain ⟨i, hi⟩ : ∃ i : Nat, (M : Int) - (j : Int) = (i : Int) := ⟨M - j, by omega⟩
      rw [hi]
      have hw6 : IntKind.i64.wrap ((i : Int) - 1) = (M : Int) - ((j + 1 : Nat) : Int) := by rw [IntWalk.i64_in _ (by omega)]; omega
      have hi0 : (0 : Int) ≤ (i : Int) := by omega
      have hI2 : Hid (Bd s.tick.1 ((j + 1 : Nat) : Int) ((j + 1 : Nat) : Int) ∧ Same (Rk N N 2 50) s.tick.1 ∧ s.tick.1.epoch = 1) := by
        have h := tick_bd hI.out.1
        exact ⟨h.1.mono (by omega) (by omega), hI.out.2.1.trans h.2.1, h.2.2.1.trans hI.out.2.2⟩
      have hl := hlen.out s hI.out.2.1
      have hB := Lib.hid hI.out.1
      replace hl := Lib.hid hl
      have hjs : (j : Int) ≤ 1000000 := by omega
      have hjs2 : (j : Int) ≤ 9223372036854775807 := by omega
      clear hi hI
      go_wp2_with fail
      refine (ticks12 pa va s _ w _ H.out j j hB.out hjs hjs2 hl.out.1 hl.out.2).mono ?_
      rintro e w4 ⟨A1, c1, rfl, H3⟩
      replace H3 := Lib.hid H3.tail.at1
      clear H
      go_wp2_with fail
      refine (ticks12 pb vb s _ w _ H3.out j j hB.out hjs hjs2 hl.out.1 hl.out.2).mono ?_
      rintro e w5 ⟨A2, c2, rfl, H4⟩
      replace H4 := Lib.hid H4.tail.at1
      clear H3
      go_wp2_with fail
      go_roundg (M + 1 - (j + 1))
      case measure => have := hk.out; omega
      case rel => exact ⟨j + 1, s.tick.1, by have := hk.out; omega, by first | rfl | go_num, hI2, H4⟩
    · have hj1 : decide ((0 : Int) ≤ (M : Int) - (j : Int)) = false := by rw [decide_eq_false_iff_not]; omega
      have hj2 : decide ((j : Int) ≤ (M : Int)) = false := by rw [decide_eq_false_iff_not]; omega
      have hj3 : decide (j ≤ M) = false := by rw [decide_eq_false_iff_not]; omega
      have hI2 : Hid (Bd s 20 20 ∧ Same (Rk N N 2 50) s ∧ s.epoch = 1) := ⟨hI.out.1.mono (by have := hk.out; omega) (by have := hk.out; omega), hI.out.2⟩
      clear hj hk hI
      go_wp2_with fail
      clear hj1 hj2 hj3
      go_loopg [10] nl (fun k iv wr => ∃ j : Nat, k + j = nl ∧ iv = .int .i64 j ∧ Hid (Hs w wr [CoV pa va s, CoV pb vb s, Old w]))
      case atStart => exact ⟨0, rfl, rfl, H⟩
      case round =>
        clear H
        obtain ⟨j, hk, rfl, H⟩ := hrel
        replace hk := Lib.hid hk
        rcases Nat.lt_or_ge j nl with hj | hj
        · have hj0 : (0 : Int) ≤ (j : Int) := by omega
          have hj1 : (j : Int) < (nl : Int) := by omega
          have hw6 : IntKind.i64.wrap ((j : Int) + 1) = ((j + 1 : Nat) : Int) := by rw [IntWalk.i64_in _ (by omega)]; omega
          obtain ⟨x, hx⟩ : ∃ x, xs[j]? = some x := ⟨_, List.getElem?_eq_getElem (by have := hxl.out; omega)⟩
          have hrd := hr.out.old H.out.at2
          obtain ⟨g, off, rfl⟩ := hrd.some_ (by have := hxl.out; omega)
          obtain ⟨e0, e1, e2, e3⟩ := ctl_cells hrd hx
          obtain ⟨kd, ep, nn, tk⟩ := x
          simp only at e0 e1 e2 e3
          clear hx hrd
          go_upto_region 16 with (fail)
          have H1 := Lib.hid (H.out.alloc (.cells #[.int .i64 kd, .int .u64 ep, .int .u64 nn, .int .i64 tk] 32))
          clear H e0 e1 e2 e3
          generalize hsz : wr.heap.size = bm at H1 ⊢
          clear hsz
          generalize World.alloc _ _ = w4 at H1 ⊢
          have b0 : w4.cell? ⟨bm, 0, none⟩ = some (.int .i64 kd) := H1.out.cellOf 0 rfl
          have b1 : w4.cell? ⟨bm, 1, none⟩ = some (.int .u64 ep) := H1.out.cellOf 1 rfl
          have b2 : w4.cell? ⟨bm, 2, none⟩ = some (.int .u64 nn) := H1.out.cellOf 2 rfl
          have b3 : w4.cell? ⟨bm, 3, none⟩ = some (.int .i64 tk) := H1.out.cellOf 3 rfl
          have hlt := (hlen.out s hI2.out.2.1).1
          replace hlt := Lib.hid hlt
          have hun : ∀ q, Calls Try.prog 17 #[.pointer (some ⟨pa, 0, none⟩)] (w4.drewN q) fun e w'' => e = .returned (.int .u64 s.under) ∧ ∃ m, w'' = w4.drewN m := fun q => by
            refine (under17 pa va s _ w _ (H1.out.at1.drewN q)).mono ?_
            rintro e w1 ⟨rfl, rfl⟩
            exact ⟨rfl, q, rfl⟩
          have hct : s.tasks.contains tk = decide (0 ≤ tk ∧ tk < (N : Int)) := by rw [hI2.out.2.1.tasks]; exact iota_mem N tk
          have hep : s.epoch = 1 := hI2.out.2.2
          by_cases c1 : ep = 1
          · by_cases c2 : 0 ≤ tk
            · by_cases c3 : tk < (N : Int)
              · by_cases c4 : kd = 2
                · by_cases c5 : nn = s.under
                  · have d1 : (ep == 1) = true := by rw [beq_iff_eq]; exact c1
                    have d4 : (kd != 2) = false := by rw [bne_eq_false_iff_eq]; exact c4
                    have d5 : (nn == s.under) = true := by rw [beq_iff_eq]; exact c5
                    have htk : Hid (s.take (kd, 2, nn, tk) = (s, 0)) := take_out s _ _ _ _ (.inl (by rw [hep]; decide))
                    clear c1 c4 c5 hep hct
                    go_quiet (first | (go_at_call 17; exact hun _))
                    replace H1 := Lib.hid (H1.out.drewN nq)
                    clear b0 b1 b2 b3 hun
                    generalize World.drewN w4 nq = w5 at *
                    have b1 : w5.cell? ⟨bm, 1, none⟩ = some (.int .u64 ep) := H1.out.cellOf 1 rfl
                    have f1 := H1.out.frozenOf 1
                    have H1' := Lib.hid (H1.out.setCell (i := 1) (.int .u64 2))
                    clear H1
                    go_upto_region 18 with (fail)
                    generalize World.setCell w5 _ _ = w7 at H1' ⊢
                    simp only [List.setIfInBounds_toArray, List.set_cons_zero, List.set_cons_succ] at H1'
                    clear b1 f1
                    have b0 : w7.cell? ⟨bm, 0, none⟩ = some (.int .i64 kd) := H1'.out.cellOf 0 rfl
                    have b1 : w7.cell? ⟨bm, 1, none⟩ = some (.int .u64 2) := H1'.out.cellOf 1 rfl
                    have b2 : w7.cell? ⟨bm, 2, none⟩ = some (.int .u64 nn) := H1'.out.cellOf 2 rfl
                    have b3 : w7.cell? ⟨bm, 3, none⟩ = some (.int .i64 tk) := H1'.out.cellOf 3 rfl
                    have H1 := Lib.hid H1'.out.tail
                    clear H1'
                    go_wp2_with fail
                    refine (take14 pa va s _ w _ H1.out kd 2 nn tk hlt.out).mono ?_
                    rw [htk.out]
                    rintro e w6 ⟨rfl, H2⟩
                    replace H2 := Lib.hid H2
                    clear H1 b0 b1 b2 b3
                    go_wp2_with fail
                    go_roundg (nl - (j + 1))
                    case measure => have := hk.out; omega
                    case rel => exact ⟨j + 1, by have := hk.out; omega, by go_num, H2⟩
                  · have d1 : (ep == 1) = true := by rw [beq_iff_eq]; exact c1
                    have d4 : (kd != 2) = false := by rw [bne_eq_false_iff_eq]; exact c4
                    have d5 : (nn == s.under) = false := by rw [beq_eq_false_iff_ne]; exact c5
                    have htk : Hid (s.take (kd, ep, nn, tk) = (s, 0)) := by show _ = _; rw [c4]; exact take_num s _ _ _ c5
                    clear c1 c4 c5 hep hct
                    go_quiet (first | (go_at_call 17; exact hun _))
                    replace H1 := Lib.hid (H1.out.drewN nq)
                    clear b0 b1 b2 b3 hun
                    generalize World.drewN w4 nq = w5 at *
                    have b0 : w5.cell? ⟨bm, 0, none⟩ = some (.int .i64 kd) := H1.out.cellOf 0 rfl
                    have b1 : w5.cell? ⟨bm, 1, none⟩ = some (.int .u64 ep) := H1.out.cellOf 1 rfl
                    have b2 : w5.cell? ⟨bm, 2, none⟩ = some (.int .u64 nn) := H1.out.cellOf 2 rfl
                    have b3 : w5.cell? ⟨bm, 3, none⟩ = some (.int .i64 tk) := H1.out.cellOf 3 rfl
                    replace H1 := Lib.hid H1.out.tail
                    go_wp2_with fail
                    refine (take14 pa va s _ w _ H1.out kd ep nn tk hlt.out).mono ?_
                    rw [htk.out]
                    rintro e w6 ⟨rfl, H2⟩
                    replace H2 := Lib.hid H2
                    clear H1 b0 b1 b2 b3
                    go_wp2_with fail
                    go_roundg (nl - (j + 1))
                    case measure => have := hk.out; omega
                    case rel => exact ⟨j + 1, by have := hk.out; omega, by go_num, H2⟩
                · have d1 : (ep == 1) = true := by rw [beq_iff_eq]; exact c1
                  have d4 : (kd != 2) = true := by rw [bne_iff_ne]; exact c4
                  have htk : Hid (s.take (kd, 2, nn, tk) = (s, 0)) := take_out s _ _ _ _ (.inl (by rw [hep]; decide))
                  clear c1 c4 hep hct
                  go_quiet (first | (go_at_call 17; exact hun _))
                  replace H1 := Lib.hid (H1.out.drewN nq)
                  clear b0 b1 b2 b3 hun
                  generalize World.drewN w4 nq = w5 at *
                  have b1 : w5.cell? ⟨bm, 1, none⟩ = some (.int .u64 ep) := H1.out.cellOf 1 rfl
                  have f1 := H1.out.frozenOf 1
                  have H1' := Lib.hid (H1.out.setCell (i := 1) (.int .u64 2))
                  clear H1
                  go_upto_region 18 with (fail)
                  generalize World.setCell w5 _ _ = w7 at H1' ⊢
                  simp only [List.setIfInBounds_toArray, List.set_cons_zero, List.set_cons_succ] at H1'
                  clear b1 f1
                  have b0 : w7.cell? ⟨bm, 0, none⟩ = some (.int .i64 kd) := H1'.out.cellOf 0 rfl
                  have b1 : w7.cell? ⟨bm, 1, none⟩ = some (.int .u64 2) := H1'.out.cellOf 1 rfl
                  have b2 : w7.cell? ⟨bm, 2, none⟩ = some (.int .u64 nn) := H1'.out.cellOf 2 rfl
                  have b3 : w7.cell? ⟨bm, 3, none⟩ = some (.int .i64 tk) := H1'.out.cellOf 3 rfl
                  have H1 := Lib.hid H1'.out.tail
                  clear H1'
                  go_wp2_with fail
                  refine (take14 pa va s _ w _ H1.out kd 2 nn tk hlt.out).mono ?_
                  rw [htk.out]
                  rintro e w6 ⟨rfl, H2⟩
                  replace H2 := Lib.hid H2
                  clear H1 b0 b1 b2 b3
                  go_wp2_with fail
                  go_roundg (nl - (j + 1))
                  case measure => have := hk.out; omega
                  case rel => exact ⟨j + 1, by have := hk.out; omega, by go_num, H2⟩
              · have d1 : (ep == 1) = true := by rw [beq_iff_eq]; exact c1
                have d3 : decide (tk < (N : Int)) = false := by rw [decide_eq_false_iff_not]; exact c3
                have htk : Hid (s.take (kd, ep, nn, tk) = (s, 0)) := take_out s _ _ _ _ (.inr (by rw [hct, decide_eq_false_iff_not]; omega))
                clear c1 c3 hep hct
                go_quiet (first | (go_at_call 17; exact hun _))
                replace H1 := Lib.hid (H1.out.drewN nq)
                clear b0 b1 b2 b3 hun
                generalize World.drewN w4 nq = w5 at *
                have b0 : w5.cell? ⟨bm, 0, none⟩ = some (.int .i64 kd) := H1.out.cellOf 0 rfl
                have b1 : w5.cell? ⟨bm, 1, none⟩ = some (.int .u64 ep) := H1.out.cellOf 1 rfl
                have b2 : w5.cell? ⟨bm, 2, none⟩ = some (.int .u64 nn) := H1.out.cellOf 2 rfl
                have b3 : w5.cell? ⟨bm, 3, none⟩ = some (.int .i64 tk) := H1.out.cellOf 3 rfl
                replace H1 := Lib.hid H1.out.tail
                go_wp2_with fail
                refine (take14 pa va s _ w _ H1.out kd ep nn tk hlt.out).mono ?_
                rw [htk.out]
                rintro e w6 ⟨rfl, H2⟩
                replace H2 := Lib.hid H2
                clear H1 b0 b1 b2 b3
                go_wp2_with fail
                go_roundg (nl - (j + 1))
                case measure => have := hk.out; omega
                case rel => exact ⟨j + 1, by have := hk.out; omega, by go_num, H2⟩
            · have d1 : (ep == 1) = true := by rw [beq_iff_eq]; exact c1
              have d2 : decide (0 ≤ tk) = false := by rw [decide_eq_false_iff_not]; exact c2
              have htk : Hid (s.take (kd, ep, nn, tk) = (s, 0)) := take_out s _ _ _ _ (.inr (by rw [hct, decide_eq_false_iff_not]; omega))
              clear c1 c2 hep hct
              go_quiet (first | (go_at_call 17; exact hun _))
              replace H1 := Lib.hid (H1.out.drewN nq)
              clear b0 b1 b2 b3 hun
              generalize World.drewN w4 nq = w5 at *
              have b0 : w5.cell? ⟨bm, 0, none⟩ = some (.int .i64 kd) := H1.out.cellOf 0 rfl
              have b1 : w5.cell? ⟨bm, 1, none⟩ = some (.int .u64 ep) := H1.out.cellOf 1 rfl
              have b2 : w5.cell? ⟨bm, 2, none⟩ = some (.int .u64 nn) := H1.out.cellOf 2 rfl
              have b3 : w5.cell? ⟨bm, 3, none⟩ = some (.int .i64 tk) := H1.out.cellOf 3 rfl
              replace H1 := Lib.hid H1.out.tail
              go_wp2_with fail
              refine (take14 pa va s _ w _ H1.out kd ep nn tk hlt.out).mono ?_
              rw [htk.out]
              rintro e w6 ⟨rfl, H2⟩
              replace H2 := Lib.hid H2
              clear H1 b0 b1 b2 b3
              go_wp2_with fail
              go_roundg (nl - (j + 1))
              case measure => have := hk.out; omega
              case rel => exact ⟨j + 1, by have := hk.out; omega, by go_num, H2⟩
          · have d1 : (ep == 1) = false := by rw [beq_eq_false_iff_ne]; exact c1
            have htk : Hid (s.take (kd, ep, nn, tk) = (s, 0)) := take_out s _ _ _ _ (.inl (by rw [hep]; exact c1))
            clear c1 hep hct
            go_quiet (first | (go_at_call 17; exact hun _))
            replace H1 := Lib.hid (H1.out.drewN nq)
            clear b0 b1 b2 b3 hun
            generalize World.drewN w4 nq = w5 at *
            have b0 : w5.cell? ⟨bm, 0, none⟩ = some (.int .i64 kd) := H1.out.cellOf 0 rfl
            have b1 : w5.cell? ⟨bm, 1, none⟩ = some (.int .u64 ep) := H1.out.cellOf 1 rfl
            have b2 : w5.cell? ⟨bm, 2, none⟩ = some (.int .u64 nn) := H1.out.cellOf 2 rfl
            have b3 : w5.cell? ⟨bm, 3, none⟩ = some (.int .i64 tk) := H1.out.cellOf 3 rfl
            replace H1 := Lib.hid H1.out.tail
            go_wp2_with fail
            refine (take14 pa va s _ w _ H1.out kd ep nn tk hlt.out).mono ?_
            rw [htk.out]
            rintro e w6 ⟨rfl, H2⟩
            replace H2 := Lib.hid H2
            clear H1 b0 b1 b2 b3
            go_wp2_with fail
            go_roundg (nl - (j + 1))
            case measure => have := hk.out; omega
            case rel => exact ⟨j + 1, by have := hk.out; omega, by go_num, H2⟩
        · have hj1 : decide ((j : Int) < (nl : Int)) = false := by rw [decide_eq_false_iff_not]; omega
          have hj2 : decide (j < nl) = false := by rw [decide_eq_false_iff_not]; omega
          have hI3 : Hid (Bd s ((20 + 0 : Nat) : Int) ((20 + 0 : Nat) : Int) ∧ Same (Rk N N 2 50) s) := ⟨hI2.out.1, hI2.out.2.1⟩
          clear hj hk hI2
          go_wp2_with fail
          clear hj1 hj2
          go_loopg [14] 5 (fun k iv wr => ∃ (j : Nat) (s : Co), k + j = 5 ∧ iv = .int .i64 j ∧ Hid (Bd s ((20 + j : Nat) : Int) ((20 + j : Nat) : Int) ∧ Same (Rk N N 2 50) s) ∧ Hid (Hs w wr [CoV pa va s, CoV pb vb s, Old w]))
          case atStart => exact ⟨0, s, rfl, rfl, hI3, H⟩
          case round =>
            clear H hI3
            obtain ⟨j, s, hk, rfl, hI, H⟩ := hrel
            replace hk := Lib.hid hk
            have hl := Lib.hid (hlen.out s hI.out.2)
            rcases Nat.lt_or_ge j 5 with hj | hj
            · have hj1 : (j : Int) < 5 := by omega
              have hw6 : IntKind.i64.wrap ((j : Int) + 1) = ((j + 1 : Nat) : Int) := by rw [IntWalk.i64_in _ (by omega)]; omega
              have hI2 : Hid (Bd s.tick.1 ((20 + (j + 1) : Nat) : Int) ((20 + (j + 1) : Nat) : Int) ∧ Same (Rk N N 2 50) s.tick.1) := by
                have h := tick_bd hI.out.1
                exact ⟨h.1.mono (by omega) (by omega), hI.out.2.trans h.2.1⟩
              have hjs : ((20 + j : Nat) : Int) ≤ 1000000 := by omega
              have hjs2 : ((20 + j : Nat) : Int) ≤ 9223372036854775807 := by omega
              go_wp2_with fail
              refine (ticks12 pa va s _ w _ H.out _ _ hI.out.1 hjs hjs2 hl.out.1 hl.out.2).mono ?_
              rintro e w4 ⟨A1, c1, rfl, H3⟩
              replace H3 := Lib.hid H3.at2
              clear H
              go_wp2_with fail
              refine (ticks12 pb vb s _ w _ H3.out _ _ hI.out.1 hjs hjs2 hl.out.1 hl.out.2).mono ?_
              rintro e w5 ⟨A2, c2, rfl, H4⟩
              replace H4 := Lib.hid H4
              clear H3
              go_wp2_with fail
              refine (ctls18 _ _ s.tick.2 w5 H4.out.at2.ls_rd H4.out.ls_rd).mono ?_
              rintro e w6 ⟨rfl, nq, rfl⟩
              have H5 : Hid _ := (H4.out.tail.at1.tail.at1).drewN nq
              clear H4
              go_wp2_with fail
              go_roundg (5 - (j + 1))
              case measure => have := hk.out; omega
              case rel => exact ⟨j + 1, s.tick.1, by have := hk.out; omega, by go_num, hI2, H5⟩
            · have hj1 : decide ((j : Int) < 5) = false := by rw [decide_eq_false_iff_not]; omega
              have hj2 : decide (j < 5) = false := by rw [decide_eq_false_iff_not]; omega
              clear hj hk
              go_wp2_with fail
              refine (under17 pa va s _ w _ H.out).mono ?_
              rintro e w5 ⟨rfl, rfl⟩
              go_wp2_with fail
              refine (under17 pb vb s _ w _ H.out.at1).mono ?_
              rintro e w5 ⟨rfl, rfl⟩
              go_wp2_with fail
              refine (settled19 pa va s _ w _ H.out hl.out.1 hl.out.2).mono ?_
              rintro e w5 ⟨rfl, H1⟩
              replace H1 := Lib.hid H1.at1
              clear H
              go_wp2_with fail
              refine (settled19 pb vb s _ w _ H1.out hl.out.1 hl.out.2).mono ?_
              rintro e w6 ⟨rfl, H2⟩
              replace H2 := Lib.hid H2
              clear H1
              go_wp2_with fail
              refine (durable13 pa va s _ w _ H2.out.at1).mono ?_
              rintro e w5 ⟨rfl, rfl⟩
              go_wp2_with fail
              refine (durable13 pb vb s _ w _ H2.out).mono ?_
              rintro e w5 ⟨rfl, rfl⟩
              go_wp2_with fail
              go_ret
              exact ⟨by simp, H2.out.tail.tail.under_old⟩
end Go.Proofs.Ythjinahfhpgpmaa

import Derived.Test.YtlhgmfdmkckmhaaRd
import Derived.Test.YtlhgmfdmkckmhaaProg
import Derived.Test.YtlhgmfdmkckmhaaLs
import Derived.Outline
import Derived.StillTailTactics
import Derived.Deep.DeepCutAuto
import Derived.Deep.CutBlock
import Derived.Deep.LoopGhost
import Derived.Deep.QuietTactic
import Derived.BigQuiet
import Derived.Deep.RegionHeld3
import Derived.Deep.RegionLaw
set_option linter.unusedVariables false
set_option linter.unusedSimpArgs false
namespace Go.Proofs.Ytlhgmfdmkckmhaa
open Go.RowKit
theorem Rf.barrier_tell (r : Rf) (ch : Nat) (n : Int) (ov fst : Bool) (hb : r.bad n = false) (hf : decide (r.last < n) = fst) : r.barrier ch n ov = (r.next n ov).tell fst ch n := by
  unfold Rf.barrier
  rw [hb, hf]
  rfl
theorem Rf.next_new (r : Rf) (n : Int) (ov : Bool) (hf : decide (r.last < n) = true) : r.next n ov = ⟨r.m, n, n, ov, List.replicate r.m.length false, []⟩ := by
  unfold Rf.next
  rw [if_pos (of_decide_eq_true hf)]
theorem Rf.next_old (r : Rf) (n : Int) (ov : Bool) (hf : decide (r.last < n) = false) : r.next n ov = r := by
  unfold Rf.next
  rw [if_neg (of_decide_eq_false hf)]
theorem Rf.next_len (r : Rf) (n : Int) (ov : Bool) (hcm : r.come.length = r.m.length) : (r.next n ov).come.length = r.m.length ∧ (r.next n ov).m = r.m := by
  unfold Rf.next
  split
  · exact ⟨List.length_replicate .., rfl⟩
  · exact ⟨hcm, rfl⟩
theorem has_false_take (l : List Bool) (j : Nat) (x : Bool) (hx : l[j]? = some x) : (!has (l.take (j + 1)) false) = ((!has (l.take j) false) && x) := by
  unfold has
  rw [List.take_add_one, hx]
  show (!(List.take j l ++ [x]).contains false) = _
  rw [List.contains_eq_any_beq, List.contains_eq_any_beq, List.any_append]
  cases x <;> simp
theorem Rf.tell_eq (r : Rf) (ch : Nat) (n : Int) (fst al : Bool) (cm2 : List Bool) (hx : r.come.getD ch false = false) (hc : r.come.set ch true = cm2) (ha : (!has cm2 false) = al) :
    r.tell fst ch n = if al = true then (⟨r.m, r.last, 0, r.over, cm2, r.cap⟩, ((r.step fst al n).1, (r.step fst al n).2.1, (r.step fst al n).2.2.1, (r.step fst al n).2.2.2.1, n)) else (⟨r.m, r.last, r.under, r.over, cm2, r.cap⟩, r.step fst al n) := by
  unfold Rf.tell
  rw [hx, hc]
  cases al with
  | true =>
    have : has cm2 false = false := by simpa using ha
    rw [this]
    simp only [Bool.false_eq_true, if_false, if_true]
    unfold Rf.put
    rw [hc]
  | false =>
    have : has cm2 false = true := by simpa using ha
    rw [this]
    simp only [Bool.false_eq_true, if_false, if_true]
    unfold Rf.put
    rw [hc]
theorem Rf.step_eq (r : Rf) (n : Int) (fst al td : Bool) (h : (r.over && fst || !r.over && al) = td) : r.step fst al n = if td = true then (3, (0, 0, 0), 0, n, 0) else noStep := by
  unfold Rf.step
  rw [h]
set_option maxRecDepth 100000 in
set_option maxHeartbeats 4000000 in
theorem rbarrier35 (p ch : Nat) (f : Fr) (r : Rf) (w w0 : World) (R : List HP) (H : Hs w0 w (RefP p r :: R)) (hch : ch < r.m.length) (hcm : r.come.length = r.m.length) (h64 : r.m.length ≤ 64) :
    Calls Try.prog 35 #[.pointer (some ⟨p, 0, none⟩), .int .i64 ch, frv f] w fun e w' => e = .returned (stv (r.barrier ch f.2.2.2.1 f.2.2.2.2).2) ∧ Hs w0 w' (RefP p (r.barrier ch f.2.2.2.1 f.2.2.2.2).1 :: R) := by
  have H1 := (H.alloc (.cells (frc f) 31)).alloc (.cells #[.int .i64 0, .int .i64 0, .int .i64 0, .int .i64 0, .int .i64 0, .int .u64 0, .int .u64 0] 38)
  rw [show (w.alloc (.cells (frc f) 31)).heap.size = w.heap.size + 1 from Array.size_push ..] at H1
  unfold frv
  replace H1 := Lib.hid H1
  obtain ⟨n, hn⟩ : ∃ n, f.2.2.2.1 = n := ⟨_, rfl⟩
  obtain ⟨ov, hov⟩ : ∃ b, f.2.2.2.2 = b := ⟨_, rfl⟩
  rw [hn, hov]
  clear H
  have hc0 : (0 : Int) ≤ (ch : Int) := by omega
  replace hn := Lib.hid hn
  replace hov := Lib.hid hov
  replace hch := Lib.hid hch
  replace hcm := Lib.hid hcm
  replace h64 := Lib.hid h64
  go_enter Try.func35, Try.ntmps35
  go_upto_region 1 with (fail)
  unfold frc at H1
  rw [hn.out, hov.out] at H1
  generalize World.alloc _ _ = w1 at H1 ⊢
  generalize w.heap.size + 1 = br at H1 ⊢
  generalize w.heap.size = bx at H1 ⊢
  have H2 := H1.out
  obtain ⟨Am, cm, Ac, cc, Ak, ck, H3⟩ := RefP.open_ H2.at2
  have p1 : w1.cell? ⟨p, 1, none⟩ = some (.int .u64 r.last) := H3.cellOf 1 rfl
  have p2 : w1.cell? ⟨p, 2, none⟩ = some (.int .u64 r.under) := H3.cellOf 2 rfl
  have x5 : w1.cell? ⟨bx, 5, none⟩ = some (.int .u64 n) := H2.at1.cellOf 5 rfl
  clear H2 H3
  go_cut [31] (fun bv wc => bv = .bool (r.bad n) ∧ ∃ k, wc = w1.drewN k)
  case first =>
    by_cases hle : n ≤ r.last
    · have hd : decide (n ≤ r.last) = true := by simpa using hle
      clear hle
      by_cases hu : n = r.under
      · have hu1 : (n != r.under) = false := by rw [bne_eq_false_iff_eq]; exact hu
        clear hu
        go_wp2_with fail
        go_quiet (fail)
        go_wp2_with fail
        go_meet
        case rel => exact ⟨by unfold Rf.bad; rw [hd, hu1]; rfl, _, rfl⟩
      · have hu1 : (n != r.under) = true := by rw [bne_iff_ne]; exact hu
        clear hu
        go_wp2_with fail
        go_quiet (fail)
        go_wp2_with fail
        go_meet
        case rel => exact ⟨by unfold Rf.bad; rw [hd, hu1]; rfl, _, rfl⟩
    · have hd : decide (n ≤ r.last) = false := by simpa using hle
      clear hle
      go_wp2_with fail
      go_quiet (fail)
      go_wp2_with fail
      go_meet
      case rel => exact ⟨by unfold Rf.bad; rw [hd]; rfl, _, rfl⟩
  case rest =>
    obtain ⟨rfl, k, rfl⟩ := hcut
    clear p1 p2 x5
    have K1 := H1.out.drewN k
    generalize World.drewN w1 k = w2 at K1 ⊢
    cases hbad : r.bad n with
    | true =>
      have b0 : w2.cell? ⟨br, 0, none⟩ = some (.int .i64 0) := K1.cellOf 0 rfl
      have b1 : w2.cell? ⟨br, 1, none⟩ = some (.int .i64 0) := K1.cellOf 1 rfl
      have b2 : w2.cell? ⟨br, 2, none⟩ = some (.int .i64 0) := K1.cellOf 2 rfl
      have b3 : w2.cell? ⟨br, 3, none⟩ = some (.int .i64 0) := K1.cellOf 3 rfl
      have b4 : w2.cell? ⟨br, 4, none⟩ = some (.int .i64 0) := K1.cellOf 4 rfl
      have b5 : w2.cell? ⟨br, 5, none⟩ = some (.int .u64 0) := K1.cellOf 5 rfl
      have b6 : w2.cell? ⟨br, 6, none⟩ = some (.int .u64 0) := K1.cellOf 6 rfl
      have g0 := K1.frozenOf 0
      have g1 := K1.frozenOf 1
      have g2 := K1.frozenOf 2
      have g3 := K1.frozenOf 3
      have g4 := K1.frozenOf 4
      have g5 := K1.frozenOf 5
      have g6 := K1.frozenOf 6

      go_wp2_with fail
      have K9 := ((((((K1.setCell (i := 0) (.int .i64 0)).setCell (i := 1) (.int .i64 0)).setCell (i := 2) (.int .i64 0)).setCell (i := 3) (.int .i64 0)).setCell (i := 4) (.int .i64 0)).setCell (i := 5) (.int .u64 0)).setCell (i := 6) (.int .u64 0)
      generalize World.setCell _ _ _ = w9 at K9 ⊢
      have r0 : w9.cell? ⟨br, 0, none⟩ = some (.int .i64 0) := K9.cellOf 0 rfl
      have r1 : w9.cell? ⟨br, 1, none⟩ = some (.int .i64 0) := K9.cellOf 1 rfl
      have r2 : w9.cell? ⟨br, 2, none⟩ = some (.int .i64 0) := K9.cellOf 2 rfl
      have r3 : w9.cell? ⟨br, 3, none⟩ = some (.int .i64 0) := K9.cellOf 3 rfl
      have r4 : w9.cell? ⟨br, 4, none⟩ = some (.int .i64 0) := K9.cellOf 4 rfl
      have r5 : w9.cell? ⟨br, 5, none⟩ = some (.int .u64 0) := K9.cellOf 5 rfl
      have r6 : w9.cell? ⟨br, 6, none⟩ = some (.int .u64 0) := K9.cellOf 6 rfl
      have hb : r.barrier ch n ov = (r, noStep) := by unfold Rf.barrier; rw [hbad]; rfl
      rw [hb]
      refine bodyPost_ret (v := stv noStep) ?_ rfl ⟨rfl, K9.tail.tail⟩
      simp [results, Try.results35, go_sem, r0, r1, r2, r3, r4, r5, r6, stv, noStep]

    | false =>
      have q1 : w2.cell? ⟨p, 1, none⟩ = some (.int .u64 r.last) := by
        obtain ⟨Am, cm, Ac, cc, Ak, ck, h⟩ := RefP.open_ K1.at2
        exact h.cellOf 1 rfl
      have x5 : w2.cell? ⟨bx, 5, none⟩ = some (.int .u64 n) := K1.at1.cellOf 5 rfl
      obtain ⟨fst, hfst⟩ : ∃ b, decide (r.last < n) = b := ⟨_, rfl⟩
      have hbn := Lib.hid (r.barrier_tell ch n ov fst hbad hfst)
      have hf2 := Lib.hid hfst
      go_wp2_with fail
      go_quiet (fail)
      go_upto_if 40 with (fail)
      have K2 := Lib.hid (K1.drewN nq)
      clear K1 q1 x5 hfst H1 hbad
      generalize World.drewN w2 nq = w3 at K2 ⊢
      go_cut [] (fun wc => Hid (Hs w0 wc (Blk br (.cells #[.int .i64 0, .int .i64 0, .int .i64 0, .int .i64 0, .int .i64 0, .int .u64 0, .int .u64 0] 38) :: Blk bx (.cells #[.int .i64 f.1, .int .i64 f.2.1.1, .int .i64 f.2.1.2.1, .int .i64 f.2.1.2.2, .int .i64 f.2.2.1, .int .u64 n, .bool ov] 31) :: RefP p (r.next n ov) :: R)))
      case first =>
        cases fst with
        | true =>
          have hnx : Hid (r.next n ov = ⟨r.m, n, n, ov, List.replicate r.m.length false, []⟩) := r.next_new n ov hf2.out
          obtain ⟨Am, cm, Ac, cc, Ak, ck, K3⟩ := RefP.open_ K2.out.at2
          have h6 : Hid (r.m.length ≤ 1000000) := by have := h64.out; show _ ≤ _; omega
          have m2 : ∀ w, (Instr.makeSlice 44 (.int .i64 (r.m.length : Int)) (.int .i64 (r.m.length : Int))).run Try.prog w = .ok (.slice (some ⟨w.heap.size, 0, none⟩) r.m.length r.m.length) (w.alloc (.cells (madeCells #[.bool false] r.m.length) 4)) := run_make_row' (P := Try.prog) 44 4 (.bool false) 1 Try.underlying44 infoB rfl .i64 .i64 r.m.length (by have := h64.out; omega) (by have := h64.out; omega)
          have H1 := Lib.hid (K3.at2.tail.at2.tail.drew)
          clear K3 K2 hf2
          go_wp2_with fail
          refine wp_region_left (S := fun w' : World => w'.cell? ⟨bx, 5, none⟩ = some (.int .u64 n) ∧ w'.cell? ⟨bx, 6, none⟩ = some (.bool ov) ∧ w'.cell? ⟨p, 0, none⟩ = some (.slice Am r.m.length cm)) 31 mixed ?_
          have hS : (fun w' : World => w'.cell? ⟨bx, 5, none⟩ = some (.int .u64 n) ∧ w'.cell? ⟨bx, 6, none⟩ = some (.bool ov) ∧ w'.cell? ⟨p, 0, none⟩ = some (.slice Am r.m.length cm)) w3.drew := by first | exact ⟨H1.out.at3.cellOf 5 rfl, H1.out.at3.cellOf 6 rfl, H1.out.cellOf 0 rfl⟩ | exact ⟨H1.out.at4.cellOf 5 rfl, H1.out.at4.cellOf 6 rfl, H1.out.cellOf 0 rfl⟩
          generalize w3.drew = wz at *
          refine Left.pure (i := 0) (v := ?va5_0_1) rfl (by kernel_rfl) (fun _ _ _ h => h) (Or.inr hS) (Or.inl ⟨by kernel_rfl, fun w _ => ?hya5_0_1⟩) ?resta5_0_1
          case hya5_0_1 => (go_simp; try with_reducible rfl)
          try simp only [Act.put, List.setIfInBounds_toArray, List.set_cons_zero, List.set_cons_succ]
          refine Left.pure (i := 1) (v := ?va5_1_2) rfl (by kernel_rfl) (fun _ _ _ h => h) (Or.inr hS) (Or.inl ⟨by kernel_rfl, fun w _ => ?hya5_1_2⟩) ?resta5_1_2
          case hya5_1_2 => (go_simp; try with_reducible rfl)
          try simp only [Act.put, List.setIfInBounds_toArray, List.set_cons_zero, List.set_cons_succ]
          refine Left.pure (i := 2) (v := ?va5_2_3) rfl (by kernel_rfl) (fun _ _ _ h => h) (Or.inr hS) (Or.inl ⟨by kernel_rfl, fun w _ => ?hya5_2_3⟩) ?resta5_2_3
          case hya5_2_3 => (go_simp; try with_reducible rfl)
          try simp only [Act.put, List.setIfInBounds_toArray, List.set_cons_zero, List.set_cons_succ]
          refine Left.pure (i := 3) (v := ?va5_3_4) rfl (by kernel_rfl) (fun _ _ _ h => h) (Or.inr hS) (Or.inl ⟨by kernel_rfl, fun w _ => ?hya5_3_4⟩) ?resta5_3_4
          case hya5_3_4 => (go_simp; try with_reducible rfl)
          try simp only [Act.put, List.setIfInBounds_toArray, List.set_cons_zero, List.set_cons_succ]
          refine Left.pure (i := 4) (v := ?va5_4_5) rfl (by kernel_rfl) (fun _ _ _ h => h) (Or.inr hS) (Or.inl ⟨by kernel_rfl, fun w _ => ?hya5_4_5⟩) ?resta5_4_5
          case hya5_4_5 => (go_simp; try with_reducible rfl)
          try simp only [Act.put, List.setIfInBounds_toArray, List.set_cons_zero, List.set_cons_succ]
          refine Left.pure (i := 5) (v := ?va5_5_6) rfl (by kernel_rfl) (fun _ _ _ h => h) (Or.inr hS) (Or.inl ⟨by kernel_rfl, fun w _ => ?hya5_5_6⟩) ?resta5_5_6
          case hya5_5_6 => (go_simp; try with_reducible rfl)
          try simp only [Act.put, List.setIfInBounds_toArray, List.set_cons_zero, List.set_cons_succ]
          refine Left.pure (i := 7) (v := ?va5_7_7) rfl (by kernel_rfl) (fun _ _ _ h => h) (Or.inr hS) (Or.inl ⟨by kernel_rfl, fun w _ => ?hya5_7_7⟩) ?resta5_7_7
          case hya5_7_7 => (go_simp; try with_reducible rfl)
          try simp only [Act.put, List.setIfInBounds_toArray, List.set_cons_zero, List.set_cons_succ]
          refine Left.pure (i := 9) (v := ?va5_9_8) rfl (by kernel_rfl) (fun _ _ _ h => h) (Or.inr hS) (Or.inl ⟨by kernel_rfl, fun w _ => ?hya5_9_8⟩) ?resta5_9_8
          case hya5_9_8 => (go_simp; try with_reducible rfl)
          try simp only [Act.put, List.setIfInBounds_toArray, List.set_cons_zero, List.set_cons_succ]
          refine Left.pure (i := 11) (v := ?va5_11_9) rfl (by kernel_rfl) (fun _ _ _ h => h) (Or.inr hS) (Or.inl ⟨by kernel_rfl, fun w _ => ?hya5_11_9⟩) ?resta5_11_9
          case hya5_11_9 => (go_simp; try with_reducible rfl)
          try simp only [Act.put, List.setIfInBounds_toArray, List.set_cons_zero, List.set_cons_succ]
          refine Left.pure (i := 12) (v := ?va5_12_10) rfl (by kernel_rfl) (fun _ _ _ h => h) (Or.inr hS) (Or.inl ⟨by kernel_rfl, fun w _ => ?hya5_12_10⟩) ?resta5_12_10
          case hya5_12_10 => (go_simp; try with_reducible rfl)
          try simp only [Act.put, List.setIfInBounds_toArray, List.set_cons_zero, List.set_cons_succ]
          refine Left.pure (i := 13) (v := ?va5_13_11) rfl (by kernel_rfl) (fun _ _ _ h => h) (Or.inr hS) (Or.inl ⟨by kernel_rfl, fun w _ => ?hya5_13_11⟩) ?resta5_13_11
          case hya5_13_11 => (go_simp; try with_reducible rfl)
          try simp only [Act.put, List.setIfInBounds_toArray, List.set_cons_zero, List.set_cons_succ]
          refine Left.take (i := 6) (v := ?va5_6_12) rfl (by kernel_rfl) (fun _ _ _ h => h) hS (Or.inl ⟨by kernel_rfl, fun w hSw => ?hya5_6_12⟩) ?resta5_6_12
          case hya5_6_12 => ((try dsimp only at hSw); go_simp; try with_reducible rfl)
          try simp only [Act.put, List.setIfInBounds_toArray, List.set_cons_zero, List.set_cons_succ]
          refine Left.take (i := 8) (v := ?va5_8_13) rfl (by kernel_rfl) (fun _ _ _ h => h) hS (Or.inl ⟨by kernel_rfl, fun w hSw => ?hya5_8_13⟩) ?resta5_8_13
          case hya5_8_13 => ((try dsimp only at hSw); go_simp; try with_reducible rfl)
          try simp only [Act.put, List.setIfInBounds_toArray, List.set_cons_zero, List.set_cons_succ]
          refine Left.take (i := 10) (v := ?va5_10_14) rfl (by kernel_rfl) (fun _ _ _ h => h) hS (Or.inl ⟨by kernel_rfl, fun w hSw => ?hya5_10_14⟩) ?resta5_10_14
          case hya5_10_14 => ((try dsimp only at hSw); go_simp; try with_reducible rfl)
          try simp only [Act.put, List.setIfInBounds_toArray, List.set_cons_zero, List.set_cons_succ]
          refine Left.take (i := 14) (v := ?va5_14_15) rfl (by kernel_rfl) (fun _ _ _ h => h) hS (Or.inl ⟨by kernel_rfl, fun w hSw => ?hya5_14_15⟩) ?resta5_14_15
          case hya5_14_15 => ((try dsimp only at hSw); go_simp; try with_reducible rfl)
          try simp only [Act.put, List.setIfInBounds_toArray, List.set_cons_zero, List.set_cons_succ]
          refine Left.pure (i := 15) (v := ?va5_15_16) rfl (by kernel_rfl) (fun _ _ _ h => h) (Or.inr hS) (Or.inl ⟨by kernel_rfl, fun w _ => ?hya5_15_16⟩) ?resta5_15_16
          case hya5_15_16 => (go_simp; try with_reducible rfl)
          try simp only [Act.put, List.setIfInBounds_toArray, List.set_cons_zero, List.set_cons_succ]
          refine Left.pure (i := 17) (v := ?va5_17_17) rfl (by kernel_rfl) (fun _ _ _ h => h) (Or.inr hS) (Or.inl ⟨by kernel_rfl, fun w _ => ?hya5_17_17⟩) ?resta5_17_17
          case hya5_17_17 => (go_simp; try with_reducible rfl)
          try simp only [Act.put, List.setIfInBounds_toArray, List.set_cons_zero, List.set_cons_succ]
          refine Left.pure (i := 18) (v := ?va5_18_18) rfl (by kernel_rfl) (fun _ _ _ h => h) (Or.inr hS) (Or.inl ⟨by kernel_rfl, fun w _ => ?hya5_18_18⟩) ?resta5_18_18
          case hya5_18_18 => (go_simp; try with_reducible rfl)
          try simp only [Act.put, List.setIfInBounds_toArray, List.set_cons_zero, List.set_cons_succ]
          refine Left.two (i := 16) (j := 19) rfl rfl (by kernel_rfl) (fun K hK => ?_) (fun K hK => ?_)
          · skip
            have H2 := Lib.hid ((H1.out.ls_made (E := Enc.flag) 4 false (.bool false) rfl r.m.length h6.out).at1)
            go_simp
            generalize hgz : World.heap wz = hp at H2 ⊢
            generalize hp.size = gz at H2 ⊢
            clear hgz
            generalize World.alloc _ _ = wz at H2 ⊢
            clear H1
            have H1 := H2
            clear H2
            replace hS : (fun w' : World => w'.cell? ⟨bx, 5, none⟩ = some (.int .u64 n) ∧ w'.cell? ⟨bx, 6, none⟩ = some (.bool ov) ∧ w'.cell? ⟨p, 0, none⟩ = some (.slice Am r.m.length cm)) wz := by first | exact ⟨H1.out.at3.cellOf 5 rfl, H1.out.at3.cellOf 6 rfl, H1.out.cellOf 0 rfl⟩ | exact ⟨H1.out.at4.cellOf 5 rfl, H1.out.at4.cellOf 6 rfl, H1.out.cellOf 0 rfl⟩
            refine hK.out _ _ (Or.inr hS) ?_
            clear hK K
            try simp only [Act.put, List.setIfInBounds_toArray, List.set_cons_zero, List.set_cons_succ]
            refine Left.run (i := 19) rfl (by kernel_rfl) (fun K hK => ?_)
            have f := H1.out.frozenOf 1
            have d := H1.out.cellOf 1 rfl
            have H2 := Lib.hid (H1.out.setCell (i := 1) (.int .u64 n))
            go_simp
            generalize World.setCell _ _ _ = wz at H2 ⊢
            simp only [List.setIfInBounds_toArray, List.set_cons_zero, List.set_cons_succ] at H2
            clear f d H1
            have H1 := H2
            clear H2
            replace hS : (fun w' : World => w'.cell? ⟨bx, 5, none⟩ = some (.int .u64 n) ∧ w'.cell? ⟨bx, 6, none⟩ = some (.bool ov) ∧ w'.cell? ⟨p, 0, none⟩ = some (.slice Am r.m.length cm)) wz := by first | exact ⟨H1.out.at3.cellOf 5 rfl, H1.out.at3.cellOf 6 rfl, H1.out.cellOf 0 rfl⟩ | exact ⟨H1.out.at4.cellOf 5 rfl, H1.out.at4.cellOf 6 rfl, H1.out.cellOf 0 rfl⟩
            refine hK.out _ _ (Or.inr hS) ?_
            clear hK K
            try simp only [Act.put, List.setIfInBounds_toArray, List.set_cons_zero, List.set_cons_succ]
            refine Left.pure (i := 20) (v := ?va5_20_19) rfl (by kernel_rfl) (fun _ _ _ h => h) (Or.inr hS) (Or.inl ⟨by kernel_rfl, fun w _ => ?hya5_20_19⟩) ?resta5_20_19
            case hya5_20_19 => (go_simp; try with_reducible rfl)
            try simp only [Act.put, List.setIfInBounds_toArray, List.set_cons_zero, List.set_cons_succ]
            refine Left.pure (i := 21) (v := ?va5_21_20) rfl (by kernel_rfl) (fun _ _ _ h => h) (Or.inr hS) (Or.inl ⟨by kernel_rfl, fun w _ => ?hya5_21_20⟩) ?resta5_21_20
            case hya5_21_20 => (go_simp; try with_reducible rfl)
            try simp only [Act.put, List.setIfInBounds_toArray, List.set_cons_zero, List.set_cons_succ]
            refine Left.run (i := 22) rfl (by kernel_rfl) (fun K hK => ?_)
            have f := H1.out.frozenOf 2
            have d := H1.out.cellOf 2 rfl
            have H2 := Lib.hid (H1.out.setCell (i := 2) (.int .u64 n))
            go_simp
            generalize World.setCell _ _ _ = wz at H2 ⊢
            simp only [List.setIfInBounds_toArray, List.set_cons_zero, List.set_cons_succ] at H2
            clear f d H1
            have H1 := H2
            clear H2
            replace hS : (fun w' : World => w'.cell? ⟨bx, 5, none⟩ = some (.int .u64 n) ∧ w'.cell? ⟨bx, 6, none⟩ = some (.bool ov) ∧ w'.cell? ⟨p, 0, none⟩ = some (.slice Am r.m.length cm)) wz := by first | exact ⟨H1.out.at3.cellOf 5 rfl, H1.out.at3.cellOf 6 rfl, H1.out.cellOf 0 rfl⟩ | exact ⟨H1.out.at4.cellOf 5 rfl, H1.out.at4.cellOf 6 rfl, H1.out.cellOf 0 rfl⟩
            refine hK.out _ _ (Or.inr hS) ?_
            clear hK K
            try simp only [Act.put, List.setIfInBounds_toArray, List.set_cons_zero, List.set_cons_succ]
            refine Left.pure (i := 23) (v := ?va5_23_21) rfl (by kernel_rfl) (fun _ _ _ h => h) (Or.inr hS) (Or.inl ⟨by kernel_rfl, fun w _ => ?hya5_23_21⟩) ?resta5_23_21
            case hya5_23_21 => (go_simp; try with_reducible rfl)
            try simp only [Act.put, List.setIfInBounds_toArray, List.set_cons_zero, List.set_cons_succ]
            refine Left.pure (i := 24) (v := ?va5_24_22) rfl (by kernel_rfl) (fun _ _ _ h => h) (Or.inr hS) (Or.inl ⟨by kernel_rfl, fun w _ => ?hya5_24_22⟩) ?resta5_24_22
            case hya5_24_22 => (go_simp; try with_reducible rfl)
            try simp only [Act.put, List.setIfInBounds_toArray, List.set_cons_zero, List.set_cons_succ]
            refine Left.run (i := 25) rfl (by kernel_rfl) (fun K hK => ?_)
            have f := H1.out.frozenOf 3
            have d := H1.out.cellOf 3 rfl
            have H2 := Lib.hid (H1.out.setCell (i := 3) (.bool ov))
            go_simp
            generalize World.setCell _ _ _ = wz at H2 ⊢
            simp only [List.setIfInBounds_toArray, List.set_cons_zero, List.set_cons_succ] at H2
            clear f d H1
            have H1 := H2
            clear H2
            replace hS : (fun w' : World => w'.cell? ⟨bx, 5, none⟩ = some (.int .u64 n) ∧ w'.cell? ⟨bx, 6, none⟩ = some (.bool ov) ∧ w'.cell? ⟨p, 0, none⟩ = some (.slice Am r.m.length cm)) wz := by first | exact ⟨H1.out.at3.cellOf 5 rfl, H1.out.at3.cellOf 6 rfl, H1.out.cellOf 0 rfl⟩ | exact ⟨H1.out.at4.cellOf 5 rfl, H1.out.at4.cellOf 6 rfl, H1.out.cellOf 0 rfl⟩
            refine hK.out _ _ (Or.inr hS) ?_
            clear hK K
            try simp only [Act.put, List.setIfInBounds_toArray, List.set_cons_zero, List.set_cons_succ]
            refine Left.pure (i := 26) (v := ?va5_26_23) rfl (by kernel_rfl) (fun _ _ _ h => h) (Or.inr hS) (Or.inl ⟨by kernel_rfl, fun w _ => ?hya5_26_23⟩) ?resta5_26_23
            case hya5_26_23 => (go_simp; try with_reducible rfl)
            try simp only [Act.put, List.setIfInBounds_toArray, List.set_cons_zero, List.set_cons_succ]
            refine Left.pure (i := 27) (v := ?va5_27_24) rfl (by kernel_rfl) (fun _ _ _ h => h) (Or.inr hS) (Or.inl ⟨by kernel_rfl, fun w _ => ?hya5_27_24⟩) ?resta5_27_24
            case hya5_27_24 => (go_simp; try with_reducible rfl)
            try simp only [Act.put, List.setIfInBounds_toArray, List.set_cons_zero, List.set_cons_succ]
            refine Left.run (i := 28) rfl (by kernel_rfl) (fun K hK => ?_)
            have f := H1.out.frozenOf 4
            have d := H1.out.cellOf 4 rfl
            have H2 := Lib.hid (H1.out.setCell (i := 4) (.slice (some ⟨gz, 0, none⟩) r.m.length r.m.length))
            go_simp
            generalize World.setCell _ _ _ = wz at H2 ⊢
            simp only [List.setIfInBounds_toArray, List.set_cons_zero, List.set_cons_succ] at H2
            clear f d H1
            have H1 := H2
            clear H2
            replace hS : (fun w' : World => w'.cell? ⟨bx, 5, none⟩ = some (.int .u64 n) ∧ w'.cell? ⟨bx, 6, none⟩ = some (.bool ov) ∧ w'.cell? ⟨p, 0, none⟩ = some (.slice Am r.m.length cm)) wz := by first | exact ⟨H1.out.at3.cellOf 5 rfl, H1.out.at3.cellOf 6 rfl, H1.out.cellOf 0 rfl⟩ | exact ⟨H1.out.at4.cellOf 5 rfl, H1.out.at4.cellOf 6 rfl, H1.out.cellOf 0 rfl⟩
            refine hK.out _ _ (Or.inr hS) ?_
            clear hK K
            try simp only [Act.put, List.setIfInBounds_toArray, List.set_cons_zero, List.set_cons_succ]
            refine Left.pure (i := 29) (v := ?va5_29_25) rfl (by kernel_rfl) (fun _ _ _ h => h) (Or.inr hS) (Or.inl ⟨by kernel_rfl, fun w _ => ?hya5_29_25⟩) ?resta5_29_25
            case hya5_29_25 => (go_simp; try with_reducible rfl)
            try simp only [Act.put, List.setIfInBounds_toArray, List.set_cons_zero, List.set_cons_succ]
            refine Left.pure (i := 30) (v := ?va5_30_26) rfl (by kernel_rfl) (fun _ _ _ h => h) (Or.inr hS) (Or.inl ⟨by kernel_rfl, fun w _ => ?hya5_30_26⟩) ?resta5_30_26
            case hya5_30_26 => (go_simp; try with_reducible rfl)
            try simp only [Act.put, List.setIfInBounds_toArray, List.set_cons_zero, List.set_cons_succ]
            refine Left.run (i := 31) rfl (by kernel_rfl) (fun K hK => ?_)
            have f := H1.out.frozenOf 5
            have d := H1.out.cellOf 5 rfl
            have H2 := Lib.hid (H1.out.setCell (i := 5) (.slice none 0 0))
            go_simp
            generalize World.setCell _ _ _ = wz at H2 ⊢
            simp only [List.setIfInBounds_toArray, List.set_cons_zero, List.set_cons_succ] at H2
            clear f d H1
            have H1 := H2
            clear H2
            refine hK.out _ _ (Or.inl (by kernel_rfl)) ?_
            clear hK K
            try simp only [Act.put, List.setIfInBounds_toArray, List.set_cons_zero, List.set_cons_succ]
            refine Left.done (by kernel_rfl) ?_ _
            go_wp2_with fail
            go_meet
            case rel =>
              rw [hnx.out]
              exact Lib.hid (RefP.mk_ (r := ⟨r.m, n, n, ov, List.replicate r.m.length false, []⟩) (by refine Hs.conseq (H1.out.ls_nil EOut 46) fun h s => ?_; refine Sep.pickc (by first | with_reducible exact s | with_reducible exact s.at1 | with_reducible exact s.at2 | with_reducible exact s.at3 | with_reducible exact s.at4 | with_reducible exact s.at5 | with_reducible exact s.at6 | with_reducible exact s.at7) (fun h s => ?_); refine Sep.pickc (by first | with_reducible exact s | with_reducible exact s.at1 | with_reducible exact s.at2 | with_reducible exact s.at3 | with_reducible exact s.at4 | with_reducible exact s.at5 | with_reducible exact s.at6 | with_reducible exact s.at7) (fun h s => ?_); refine Sep.pickc (by first | with_reducible exact s | with_reducible exact s.at1 | with_reducible exact s.at2 | with_reducible exact s.at3 | with_reducible exact s.at4 | with_reducible exact s.at5 | with_reducible exact s.at6 | with_reducible exact s.at7) (fun h s => ?_); refine Sep.pickc (by first | with_reducible exact s | with_reducible exact s.at1 | with_reducible exact s.at2 | with_reducible exact s.at3 | with_reducible exact s.at4 | with_reducible exact s.at5 | with_reducible exact s.at6 | with_reducible exact s.at7) (fun h s => ?_); exact s)).at2.at2
          · skip
            have f := H1.out.frozenOf 1
            have d := H1.out.cellOf 1 rfl
            have H2 := Lib.hid (H1.out.setCell (i := 1) (.int .u64 n))
            go_simp
            generalize World.setCell _ _ _ = wz at H2 ⊢
            simp only [List.setIfInBounds_toArray, List.set_cons_zero, List.set_cons_succ] at H2
            clear f d H1
            have H1 := H2
            clear H2
            replace hS : (fun w' : World => w'.cell? ⟨bx, 5, none⟩ = some (.int .u64 n) ∧ w'.cell? ⟨bx, 6, none⟩ = some (.bool ov) ∧ w'.cell? ⟨p, 0, none⟩ = some (.slice Am r.m.length cm)) wz := by first | exact ⟨H1.out.at3.cellOf 5 rfl, H1.out.at3.cellOf 6 rfl, H1.out.cellOf 0 rfl⟩ | exact ⟨H1.out.at4.cellOf 5 rfl, H1.out.at4.cellOf 6 rfl, H1.out.cellOf 0 rfl⟩
            refine hK.out _ _ (Or.inr hS) ?_
            clear hK K
            try simp only [Act.put, List.setIfInBounds_toArray, List.set_cons_zero, List.set_cons_succ]
            refine Left.pure (i := 20) (v := ?va5_20_27) rfl (by kernel_rfl) (fun _ _ _ h => h) (Or.inr hS) (Or.inl ⟨by kernel_rfl, fun w _ => ?hya5_20_27⟩) ?resta5_20_27
            case hya5_20_27 => (go_simp; try with_reducible rfl)
            try simp only [Act.put, List.setIfInBounds_toArray, List.set_cons_zero, List.set_cons_succ]
            refine Left.pure (i := 21) (v := ?va5_21_28) rfl (by kernel_rfl) (fun _ _ _ h => h) (Or.inr hS) (Or.inl ⟨by kernel_rfl, fun w _ => ?hya5_21_28⟩) ?resta5_21_28
            case hya5_21_28 => (go_simp; try with_reducible rfl)
            try simp only [Act.put, List.setIfInBounds_toArray, List.set_cons_zero, List.set_cons_succ]
            refine Left.two (i := 16) (j := 22) rfl rfl (by kernel_rfl) (fun K hK => ?_) (fun K hK => ?_)
            · skip
              have H2 := Lib.hid ((H1.out.ls_made (E := Enc.flag) 4 false (.bool false) rfl r.m.length h6.out).at1)
              go_simp
              generalize hgz : World.heap wz = hp at H2 ⊢
              generalize hp.size = gz at H2 ⊢
              clear hgz
              generalize World.alloc _ _ = wz at H2 ⊢
              clear H1
              have H1 := H2
              clear H2
              replace hS : (fun w' : World => w'.cell? ⟨bx, 5, none⟩ = some (.int .u64 n) ∧ w'.cell? ⟨bx, 6, none⟩ = some (.bool ov) ∧ w'.cell? ⟨p, 0, none⟩ = some (.slice Am r.m.length cm)) wz := by first | exact ⟨H1.out.at3.cellOf 5 rfl, H1.out.at3.cellOf 6 rfl, H1.out.cellOf 0 rfl⟩ | exact ⟨H1.out.at4.cellOf 5 rfl, H1.out.at4.cellOf 6 rfl, H1.out.cellOf 0 rfl⟩
              refine hK.out _ _ (Or.inr hS) ?_
              clear hK K
              try simp only [Act.put, List.setIfInBounds_toArray, List.set_cons_zero, List.set_cons_succ]
              refine Left.run (i := 22) rfl (by kernel_rfl) (fun K hK => ?_)
              have f := H1.out.frozenOf 2
              have d := H1.out.cellOf 2 rfl
              have H2 := Lib.hid (H1.out.setCell (i := 2) (.int .u64 n))
              go_simp
              generalize World.setCell _ _ _ = wz at H2 ⊢
              simp only [List.setIfInBounds_toArray, List.set_cons_zero, List.set_cons_succ] at H2
              clear f d H1
              have H1 := H2
              clear H2
              replace hS : (fun w' : World => w'.cell? ⟨bx, 5, none⟩ = some (.int .u64 n) ∧ w'.cell? ⟨bx, 6, none⟩ = some (.bool ov) ∧ w'.cell? ⟨p, 0, none⟩ = some (.slice Am r.m.length cm)) wz := by first | exact ⟨H1.out.at3.cellOf 5 rfl, H1.out.at3.cellOf 6 rfl, H1.out.cellOf 0 rfl⟩ | exact ⟨H1.out.at4.cellOf 5 rfl, H1.out.at4.cellOf 6 rfl, H1.out.cellOf 0 rfl⟩
              refine hK.out _ _ (Or.inr hS) ?_
              clear hK K
              try simp only [Act.put, List.setIfInBounds_toArray, List.set_cons_zero, List.set_cons_succ]
              refine Left.pure (i := 23) (v := ?va5_23_29) rfl (by kernel_rfl) (fun _ _ _ h => h) (Or.inr hS) (Or.inl ⟨by kernel_rfl, fun w _ => ?hya5_23_29⟩) ?resta5_23_29
              case hya5_23_29 => (go_simp; try with_reducible rfl)
              try simp only [Act.put, List.setIfInBounds_toArray, List.set_cons_zero, List.set_cons_succ]
              refine Left.pure (i := 24) (v := ?va5_24_30) rfl (by kernel_rfl) (fun _ _ _ h => h) (Or.inr hS) (Or.inl ⟨by kernel_rfl, fun w _ => ?hya5_24_30⟩) ?resta5_24_30
              case hya5_24_30 => (go_simp; try with_reducible rfl)
              try simp only [Act.put, List.setIfInBounds_toArray, List.set_cons_zero, List.set_cons_succ]
              refine Left.run (i := 25) rfl (by kernel_rfl) (fun K hK => ?_)
              have f := H1.out.frozenOf 3
              have d := H1.out.cellOf 3 rfl
              have H2 := Lib.hid (H1.out.setCell (i := 3) (.bool ov))
              go_simp
              generalize World.setCell _ _ _ = wz at H2 ⊢
              simp only [List.setIfInBounds_toArray, List.set_cons_zero, List.set_cons_succ] at H2
              clear f d H1
              have H1 := H2
              clear H2
              replace hS : (fun w' : World => w'.cell? ⟨bx, 5, none⟩ = some (.int .u64 n) ∧ w'.cell? ⟨bx, 6, none⟩ = some (.bool ov) ∧ w'.cell? ⟨p, 0, none⟩ = some (.slice Am r.m.length cm)) wz := by first | exact ⟨H1.out.at3.cellOf 5 rfl, H1.out.at3.cellOf 6 rfl, H1.out.cellOf 0 rfl⟩ | exact ⟨H1.out.at4.cellOf 5 rfl, H1.out.at4.cellOf 6 rfl, H1.out.cellOf 0 rfl⟩
              refine hK.out _ _ (Or.inr hS) ?_
              clear hK K
              try simp only [Act.put, List.setIfInBounds_toArray, List.set_cons_zero, List.set_cons_succ]
              refine Left.pure (i := 26) (v := ?va5_26_31) rfl (by kernel_rfl) (fun _ _ _ h => h) (Or.inr hS) (Or.inl ⟨by kernel_rfl, fun w _ => ?hya5_26_31⟩) ?resta5_26_31
              case hya5_26_31 => (go_simp; try with_reducible rfl)
              try simp only [Act.put, List.setIfInBounds_toArray, List.set_cons_zero, List.set_cons_succ]
              refine Left.pure (i := 27) (v := ?va5_27_32) rfl (by kernel_rfl) (fun _ _ _ h => h) (Or.inr hS) (Or.inl ⟨by kernel_rfl, fun w _ => ?hya5_27_32⟩) ?resta5_27_32
              case hya5_27_32 => (go_simp; try with_reducible rfl)
              try simp only [Act.put, List.setIfInBounds_toArray, List.set_cons_zero, List.set_cons_succ]
              refine Left.run (i := 28) rfl (by kernel_rfl) (fun K hK => ?_)
              have f := H1.out.frozenOf 4
              have d := H1.out.cellOf 4 rfl
              have H2 := Lib.hid (H1.out.setCell (i := 4) (.slice (some ⟨gz, 0, none⟩) r.m.length r.m.length))
              go_simp
              generalize World.setCell _ _ _ = wz at H2 ⊢
              simp only [List.setIfInBounds_toArray, List.set_cons_zero, List.set_cons_succ] at H2
              clear f d H1
              have H1 := H2
              clear H2
              replace hS : (fun w' : World => w'.cell? ⟨bx, 5, none⟩ = some (.int .u64 n) ∧ w'.cell? ⟨bx, 6, none⟩ = some (.bool ov) ∧ w'.cell? ⟨p, 0, none⟩ = some (.slice Am r.m.length cm)) wz := by first | exact ⟨H1.out.at3.cellOf 5 rfl, H1.out.at3.cellOf 6 rfl, H1.out.cellOf 0 rfl⟩ | exact ⟨H1.out.at4.cellOf 5 rfl, H1.out.at4.cellOf 6 rfl, H1.out.cellOf 0 rfl⟩
              refine hK.out _ _ (Or.inr hS) ?_
              clear hK K
              try simp only [Act.put, List.setIfInBounds_toArray, List.set_cons_zero, List.set_cons_succ]
              refine Left.pure (i := 29) (v := ?va5_29_33) rfl (by kernel_rfl) (fun _ _ _ h => h) (Or.inr hS) (Or.inl ⟨by kernel_rfl, fun w _ => ?hya5_29_33⟩) ?resta5_29_33
              case hya5_29_33 => (go_simp; try with_reducible rfl)
              try simp only [Act.put, List.setIfInBounds_toArray, List.set_cons_zero, List.set_cons_succ]
              refine Left.pure (i := 30) (v := ?va5_30_34) rfl (by kernel_rfl) (fun _ _ _ h => h) (Or.inr hS) (Or.inl ⟨by kernel_rfl, fun w _ => ?hya5_30_34⟩) ?resta5_30_34
              case hya5_30_34 => (go_simp; try with_reducible rfl)
              try simp only [Act.put, List.setIfInBounds_toArray, List.set_cons_zero, List.set_cons_succ]
              refine Left.run (i := 31) rfl (by kernel_rfl) (fun K hK => ?_)
              have f := H1.out.frozenOf 5
              have d := H1.out.cellOf 5 rfl
              have H2 := Lib.hid (H1.out.setCell (i := 5) (.slice none 0 0))
              go_simp
              generalize World.setCell _ _ _ = wz at H2 ⊢
              simp only [List.setIfInBounds_toArray, List.set_cons_zero, List.set_cons_succ] at H2
              clear f d H1
              have H1 := H2
              clear H2
              refine hK.out _ _ (Or.inl (by kernel_rfl)) ?_
              clear hK K
              try simp only [Act.put, List.setIfInBounds_toArray, List.set_cons_zero, List.set_cons_succ]
              refine Left.done (by kernel_rfl) ?_ _
              go_wp2_with fail
              go_meet
              case rel =>
                rw [hnx.out]
                exact Lib.hid (RefP.mk_ (r := ⟨r.m, n, n, ov, List.replicate r.m.length false, []⟩) (by refine Hs.conseq (H1.out.ls_nil EOut 46) fun h s => ?_; refine Sep.pickc (by first | with_reducible exact s | with_reducible exact s.at1 | with_reducible exact s.at2 | with_reducible exact s.at3 | with_reducible exact s.at4 | with_reducible exact s.at5 | with_reducible exact s.at6 | with_reducible exact s.at7) (fun h s => ?_); refine Sep.pickc (by first | with_reducible exact s | with_reducible exact s.at1 | with_reducible exact s.at2 | with_reducible exact s.at3 | with_reducible exact s.at4 | with_reducible exact s.at5 | with_reducible exact s.at6 | with_reducible exact s.at7) (fun h s => ?_); refine Sep.pickc (by first | with_reducible exact s | with_reducible exact s.at1 | with_reducible exact s.at2 | with_reducible exact s.at3 | with_reducible exact s.at4 | with_reducible exact s.at5 | with_reducible exact s.at6 | with_reducible exact s.at7) (fun h s => ?_); refine Sep.pickc (by first | with_reducible exact s | with_reducible exact s.at1 | with_reducible exact s.at2 | with_reducible exact s.at3 | with_reducible exact s.at4 | with_reducible exact s.at5 | with_reducible exact s.at6 | with_reducible exact s.at7) (fun h s => ?_); exact s)).at2.at2
            · skip
              have f := H1.out.frozenOf 2
              have d := H1.out.cellOf 2 rfl
              have H2 := Lib.hid (H1.out.setCell (i := 2) (.int .u64 n))
              go_simp
              generalize World.setCell _ _ _ = wz at H2 ⊢
              simp only [List.setIfInBounds_toArray, List.set_cons_zero, List.set_cons_succ] at H2
              clear f d H1
              have H1 := H2
              clear H2
              replace hS : (fun w' : World => w'.cell? ⟨bx, 5, none⟩ = some (.int .u64 n) ∧ w'.cell? ⟨bx, 6, none⟩ = some (.bool ov) ∧ w'.cell? ⟨p, 0, none⟩ = some (.slice Am r.m.length cm)) wz := by first | exact ⟨H1.out.at3.cellOf 5 rfl, H1.out.at3.cellOf 6 rfl, H1.out.cellOf 0 rfl⟩ | exact ⟨H1.out.at4.cellOf 5 rfl, H1.out.at4.cellOf 6 rfl, H1.out.cellOf 0 rfl⟩
              refine hK.out _ _ (Or.inr hS) ?_
              clear hK K
              try simp only [Act.put, List.setIfInBounds_toArray, List.set_cons_zero, List.set_cons_succ]
              refine Left.pure (i := 23) (v := ?va5_23_35) rfl (by kernel_rfl) (fun _ _ _ h => h) (Or.inr hS) (Or.inl ⟨by kernel_rfl, fun w _ => ?hya5_23_35⟩) ?resta5_23_35
              case hya5_23_35 => (go_simp; try with_reducible rfl)
              try simp only [Act.put, List.setIfInBounds_toArray, List.set_cons_zero, List.set_cons_succ]
              refine Left.pure (i := 24) (v := ?va5_24_36) rfl (by kernel_rfl) (fun _ _ _ h => h) (Or.inr hS) (Or.inl ⟨by kernel_rfl, fun w _ => ?hya5_24_36⟩) ?resta5_24_36
              case hya5_24_36 => (go_simp; try with_reducible rfl)
              try simp only [Act.put, List.setIfInBounds_toArray, List.set_cons_zero, List.set_cons_succ]
              refine Left.two (i := 16) (j := 25) rfl rfl (by kernel_rfl) (fun K hK => ?_) (fun K hK => ?_)
              · skip
                have H2 := Lib.hid ((H1.out.ls_made (E := Enc.flag) 4 false (.bool false) rfl r.m.length h6.out).at1)
                go_simp
                generalize hgz : World.heap wz = hp at H2 ⊢
                generalize hp.size = gz at H2 ⊢
                clear hgz
                generalize World.alloc _ _ = wz at H2 ⊢
                clear H1
                have H1 := H2
                clear H2
                replace hS : (fun w' : World => w'.cell? ⟨bx, 5, none⟩ = some (.int .u64 n) ∧ w'.cell? ⟨bx, 6, none⟩ = some (.bool ov) ∧ w'.cell? ⟨p, 0, none⟩ = some (.slice Am r.m.length cm)) wz := by first | exact ⟨H1.out.at3.cellOf 5 rfl, H1.out.at3.cellOf 6 rfl, H1.out.cellOf 0 rfl⟩ | exact ⟨H1.out.at4.cellOf 5 rfl, H1.out.at4.cellOf 6 rfl, H1.out.cellOf 0 rfl⟩
                refine hK.out _ _ (Or.inr hS) ?_
                clear hK K
                try simp only [Act.put, List.setIfInBounds_toArray, List.set_cons_zero, List.set_cons_succ]
                refine Left.run (i := 25) rfl (by kernel_rfl) (fun K hK => ?_)
                have f := H1.out.frozenOf 3
                have d := H1.out.cellOf 3 rfl
                have H2 := Lib.hid (H1.out.setCell (i := 3) (.bool ov))
                go_simp
                generalize World.setCell _ _ _ = wz at H2 ⊢
                simp only [List.setIfInBounds_toArray, List.set_cons_zero, List.set_cons_succ] at H2
                clear f d H1
                have H1 := H2
                clear H2
                replace hS : (fun w' : World => w'.cell? ⟨bx, 5, none⟩ = some (.int .u64 n) ∧ w'.cell? ⟨bx, 6, none⟩ = some (.bool ov) ∧ w'.cell? ⟨p, 0, none⟩ = some (.slice Am r.m.length cm)) wz := by first | exact ⟨H1.out.at3.cellOf 5 rfl, H1.out.at3.cellOf 6 rfl, H1.out.cellOf 0 rfl⟩ | exact ⟨H1.out.at4.cellOf 5 rfl, H1.out.at4.cellOf 6 rfl, H1.out.cellOf 0 rfl⟩
                refine hK.out _ _ (Or.inr hS) ?_
                clear hK K
                try simp only [Act.put, List.setIfInBounds_toArray, List.set_cons_zero, List.set_cons_succ]
                refine Left.pure (i := 26) (v := ?va5_26_37) rfl (by kernel_rfl) (fun _ _ _ h => h) (Or.inr hS) (Or.inl ⟨by kernel_rfl, fun w _ => ?hya5_26_37⟩) ?resta5_26_37
                case hya5_26_37 => (go_simp; try with_reducible rfl)
                try simp only [Act.put, List.setIfInBounds_toArray, List.set_cons_zero, List.set_cons_succ]
                refine Left.pure (i := 27) (v := ?va5_27_38) rfl (by kernel_rfl) (fun _ _ _ h => h) (Or.inr hS) (Or.inl ⟨by kernel_rfl, fun w _ => ?hya5_27_38⟩) ?resta5_27_38
                case hya5_27_38 => (go_simp; try with_reducible rfl)
                try simp only [Act.put, List.setIfInBounds_toArray, List.set_cons_zero, List.set_cons_succ]
                refine Left.run (i := 28) rfl (by kernel_rfl) (fun K hK => ?_)
                have f := H1.out.frozenOf 4
                have d := H1.out.cellOf 4 rfl
                have H2 := Lib.hid (H1.out.setCell (i := 4) (.slice (some ⟨gz, 0, none⟩) r.m.length r.m.length))
                go_simp
                generalize World.setCell _ _ _ = wz at H2 ⊢
                simp only [List.setIfInBounds_toArray, List.set_cons_zero, List.set_cons_succ] at H2
                clear f d H1
                have H1 := H2
                clear H2
                replace hS : (fun w' : World => w'.cell? ⟨bx, 5, none⟩ = some (.int .u64 n) ∧ w'.cell? ⟨bx, 6, none⟩ = some (.bool ov) ∧ w'.cell? ⟨p, 0, none⟩ = some (.slice Am r.m.length cm)) wz := by first | exact ⟨H1.out.at3.cellOf 5 rfl, H1.out.at3.cellOf 6 rfl, H1.out.cellOf 0 rfl⟩ | exact ⟨H1.out.at4.cellOf 5 rfl, H1.out.at4.cellOf 6 rfl, H1.out.cellOf 0 rfl⟩
                refine hK.out _ _ (Or.inr hS) ?_
                clear hK K
                try simp only [Act.put, List.setIfInBounds_toArray, List.set_cons_zero, List.set_cons_succ]
                refine Left.pure (i := 29) (v := ?va5_29_39) rfl (by kernel_rfl) (fun _ _ _ h => h) (Or.inr hS) (Or.inl ⟨by kernel_rfl, fun w _ => ?hya5_29_39⟩) ?resta5_29_39
                case hya5_29_39 => (go_simp; try with_reducible rfl)
                try simp only [Act.put, List.setIfInBounds_toArray, List.set_cons_zero, List.set_cons_succ]
                refine Left.pure (i := 30) (v := ?va5_30_40) rfl (by kernel_rfl) (fun _ _ _ h => h) (Or.inr hS) (Or.inl ⟨by kernel_rfl, fun w _ => ?hya5_30_40⟩) ?resta5_30_40
                case hya5_30_40 => (go_simp; try with_reducible rfl)
                try simp only [Act.put, List.setIfInBounds_toArray, List.set_cons_zero, List.set_cons_succ]
                refine Left.run (i := 31) rfl (by kernel_rfl) (fun K hK => ?_)
                have f := H1.out.frozenOf 5
                have d := H1.out.cellOf 5 rfl
                have H2 := Lib.hid (H1.out.setCell (i := 5) (.slice none 0 0))
                go_simp
                generalize World.setCell _ _ _ = wz at H2 ⊢
                simp only [List.setIfInBounds_toArray, List.set_cons_zero, List.set_cons_succ] at H2
                clear f d H1
                have H1 := H2
                clear H2
                refine hK.out _ _ (Or.inl (by kernel_rfl)) ?_
                clear hK K
                try simp only [Act.put, List.setIfInBounds_toArray, List.set_cons_zero, List.set_cons_succ]
                refine Left.done (by kernel_rfl) ?_ _
                go_wp2_with fail
                go_meet
                case rel =>
                  rw [hnx.out]
                  exact Lib.hid (RefP.mk_ (r := ⟨r.m, n, n, ov, List.replicate r.m.length false, []⟩) (by refine Hs.conseq (H1.out.ls_nil EOut 46) fun h s => ?_; refine Sep.pickc (by first | with_reducible exact s | with_reducible exact s.at1 | with_reducible exact s.at2 | with_reducible exact s.at3 | with_reducible exact s.at4 | with_reducible exact s.at5 | with_reducible exact s.at6 | with_reducible exact s.at7) (fun h s => ?_); refine Sep.pickc (by first | with_reducible exact s | with_reducible exact s.at1 | with_reducible exact s.at2 | with_reducible exact s.at3 | with_reducible exact s.at4 | with_reducible exact s.at5 | with_reducible exact s.at6 | with_reducible exact s.at7) (fun h s => ?_); refine Sep.pickc (by first | with_reducible exact s | with_reducible exact s.at1 | with_reducible exact s.at2 | with_reducible exact s.at3 | with_reducible exact s.at4 | with_reducible exact s.at5 | with_reducible exact s.at6 | with_reducible exact s.at7) (fun h s => ?_); refine Sep.pickc (by first | with_reducible exact s | with_reducible exact s.at1 | with_reducible exact s.at2 | with_reducible exact s.at3 | with_reducible exact s.at4 | with_reducible exact s.at5 | with_reducible exact s.at6 | with_reducible exact s.at7) (fun h s => ?_); exact s)).at2.at2
              · skip
                have f := H1.out.frozenOf 3
                have d := H1.out.cellOf 3 rfl
                have H2 := Lib.hid (H1.out.setCell (i := 3) (.bool ov))
                go_simp
                generalize World.setCell _ _ _ = wz at H2 ⊢
                simp only [List.setIfInBounds_toArray, List.set_cons_zero, List.set_cons_succ] at H2
                clear f d H1
                have H1 := H2
                clear H2
                replace hS : (fun w' : World => w'.cell? ⟨bx, 5, none⟩ = some (.int .u64 n) ∧ w'.cell? ⟨bx, 6, none⟩ = some (.bool ov) ∧ w'.cell? ⟨p, 0, none⟩ = some (.slice Am r.m.length cm)) wz := by first | exact ⟨H1.out.at3.cellOf 5 rfl, H1.out.at3.cellOf 6 rfl, H1.out.cellOf 0 rfl⟩ | exact ⟨H1.out.at4.cellOf 5 rfl, H1.out.at4.cellOf 6 rfl, H1.out.cellOf 0 rfl⟩
                refine hK.out _ _ (Or.inr hS) ?_
                clear hK K
                try simp only [Act.put, List.setIfInBounds_toArray, List.set_cons_zero, List.set_cons_succ]
                refine Left.run (i := 16) rfl (by kernel_rfl) (fun K hK => ?_)
                have H2 := Lib.hid ((H1.out.ls_made (E := Enc.flag) 4 false (.bool false) rfl r.m.length h6.out).at1)
                go_simp
                generalize hgz : World.heap wz = hp at H2 ⊢
                generalize hp.size = gz at H2 ⊢
                clear hgz
                generalize World.alloc _ _ = wz at H2 ⊢
                clear H1
                have H1 := H2
                clear H2
                replace hS : (fun w' : World => w'.cell? ⟨bx, 5, none⟩ = some (.int .u64 n) ∧ w'.cell? ⟨bx, 6, none⟩ = some (.bool ov) ∧ w'.cell? ⟨p, 0, none⟩ = some (.slice Am r.m.length cm)) wz := by first | exact ⟨H1.out.at3.cellOf 5 rfl, H1.out.at3.cellOf 6 rfl, H1.out.cellOf 0 rfl⟩ | exact ⟨H1.out.at4.cellOf 5 rfl, H1.out.at4.cellOf 6 rfl, H1.out.cellOf 0 rfl⟩
                refine hK.out _ _ (Or.inr hS) ?_
                clear hK K
                try simp only [Act.put, List.setIfInBounds_toArray, List.set_cons_zero, List.set_cons_succ]
                refine Left.pure (i := 26) (v := ?va5_26_41) rfl (by kernel_rfl) (fun _ _ _ h => h) (Or.inr hS) (Or.inl ⟨by kernel_rfl, fun w _ => ?hya5_26_41⟩) ?resta5_26_41
                case hya5_26_41 => (go_simp; try with_reducible rfl)
                try simp only [Act.put, List.setIfInBounds_toArray, List.set_cons_zero, List.set_cons_succ]
                refine Left.pure (i := 27) (v := ?va5_27_42) rfl (by kernel_rfl) (fun _ _ _ h => h) (Or.inr hS) (Or.inl ⟨by kernel_rfl, fun w _ => ?hya5_27_42⟩) ?resta5_27_42
                case hya5_27_42 => (go_simp; try with_reducible rfl)
                try simp only [Act.put, List.setIfInBounds_toArray, List.set_cons_zero, List.set_cons_succ]
                refine Left.run (i := 28) rfl (by kernel_rfl) (fun K hK => ?_)
                have f := H1.out.frozenOf 4
                have d := H1.out.cellOf 4 rfl
                have H2 := Lib.hid (H1.out.setCell (i := 4) (.slice (some ⟨gz, 0, none⟩) r.m.length r.m.length))
                go_simp
                generalize World.setCell _ _ _ = wz at H2 ⊢
                simp only [List.setIfInBounds_toArray, List.set_cons_zero, List.set_cons_succ] at H2
                clear f d H1
                have H1 := H2
                clear H2
                replace hS : (fun w' : World => w'.cell? ⟨bx, 5, none⟩ = some (.int .u64 n) ∧ w'.cell? ⟨bx, 6, none⟩ = some (.bool ov) ∧ w'.cell? ⟨p, 0, none⟩ = some (.slice Am r.m.length cm)) wz := by first | exact ⟨H1.out.at3.cellOf 5 rfl, H1.out.at3.cellOf 6 rfl, H1.out.cellOf 0 rfl⟩ | exact ⟨H1.out.at4.cellOf 5 rfl, H1.out.at4.cellOf 6 rfl, H1.out.cellOf 0 rfl⟩
                refine hK.out _ _ (Or.inr hS) ?_
                clear hK K
                try simp only [Act.put, List.setIfInBounds_toArray, List.set_cons_zero, List.set_cons_succ]
                refine Left.pure (i := 29) (v := ?va5_29_43) rfl (by kernel_rfl) (fun _ _ _ h => h) (Or.inr hS) (Or.inl ⟨by kernel_rfl, fun w _ => ?hya5_29_43⟩) ?resta5_29_43
                case hya5_29_43 => (go_simp; try with_reducible rfl)
                try simp only [Act.put, List.setIfInBounds_toArray, List.set_cons_zero, List.set_cons_succ]
                refine Left.pure (i := 30) (v := ?va5_30_44) rfl (by kernel_rfl) (fun _ _ _ h => h) (Or.inr hS) (Or.inl ⟨by kernel_rfl, fun w _ => ?hya5_30_44⟩) ?resta5_30_44
                case hya5_30_44 => (go_simp; try with_reducible rfl)
                try simp only [Act.put, List.setIfInBounds_toArray, List.set_cons_zero, List.set_cons_succ]
                refine Left.run (i := 31) rfl (by kernel_rfl) (fun K hK => ?_)
                have f := H1.out.frozenOf 5
                have d := H1.out.cellOf 5 rfl
                have H2 := Lib.hid (H1.out.setCell (i := 5) (.slice none 0 0))
                go_simp
                generalize World.setCell _ _ _ = wz at H2 ⊢
                simp only [List.setIfInBounds_toArray, List.set_cons_zero, List.set_cons_succ] at H2
                clear f d H1
                have H1 := H2
                clear H2
                refine hK.out _ _ (Or.inl (by kernel_rfl)) ?_
                clear hK K
                try simp only [Act.put, List.setIfInBounds_toArray, List.set_cons_zero, List.set_cons_succ]
                refine Left.done (by kernel_rfl) ?_ _
                go_wp2_with fail
                go_meet
                case rel =>
                  rw [hnx.out]
                  exact Lib.hid (RefP.mk_ (r := ⟨r.m, n, n, ov, List.replicate r.m.length false, []⟩) (by refine Hs.conseq (H1.out.ls_nil EOut 46) fun h s => ?_; refine Sep.pickc (by first | with_reducible exact s | with_reducible exact s.at1 | with_reducible exact s.at2 | with_reducible exact s.at3 | with_reducible exact s.at4 | with_reducible exact s.at5 | with_reducible exact s.at6 | with_reducible exact s.at7) (fun h s => ?_); refine Sep.pickc (by first | with_reducible exact s | with_reducible exact s.at1 | with_reducible exact s.at2 | with_reducible exact s.at3 | with_reducible exact s.at4 | with_reducible exact s.at5 | with_reducible exact s.at6 | with_reducible exact s.at7) (fun h s => ?_); refine Sep.pickc (by first | with_reducible exact s | with_reducible exact s.at1 | with_reducible exact s.at2 | with_reducible exact s.at3 | with_reducible exact s.at4 | with_reducible exact s.at5 | with_reducible exact s.at6 | with_reducible exact s.at7) (fun h s => ?_); refine Sep.pickc (by first | with_reducible exact s | with_reducible exact s.at1 | with_reducible exact s.at2 | with_reducible exact s.at3 | with_reducible exact s.at4 | with_reducible exact s.at5 | with_reducible exact s.at6 | with_reducible exact s.at7) (fun h s => ?_); exact s)).at2.at2

        | false =>
          have hnx : Hid (r.next n ov = r) := r.next_old n ov hf2.out
          clear hf2
          go_wp2_with fail
          go_meet
          case rel =>
            rw [hnx.out]
            exact K2
      case rest =>
        obtain ⟨r1, hr1⟩ : ∃ r1, r.next n ov = r1 := ⟨_, rfl⟩
        have hlen := r.next_len n ov hcm.out
        rw [hr1] at hbn hcut hlen
        have h1c : ch < r1.come.length := by have := hch.out; omega
        have h1m : r1.come.length ≤ 64 := by have := h64.out; omega
        clear hr1 K2 hf2 hlen
        have K2 := hcut.out
        clear hcut
        obtain ⟨x, hx⟩ : ∃ x, r1.come[ch]? = some x := ⟨_, List.getElem?_eq_getElem h1c⟩
        have hxd : Hid (r1.come.getD ch false = x) := by show _ = _; simp [List.getD, hx]
        obtain ⟨Am, cm, Ac, cc, Ak, ck, K3⟩ := RefP.open_ K2.at2
        obtain ⟨g, off, rfl⟩ := K3.at2.ls_rd.some_ (by omega)
        obtain ⟨N, hN⟩ : ∃ N, r1.come.length = N := ⟨_, rfl⟩
        rw [hN] at K3 h1c h1m
        have k4 : wc.cell? ⟨p, 4, none⟩ = some (.slice (some ⟨g, off, none⟩) N cc) := K3.cellOf 4 rfl
        have cx : wc.cell? ⟨g, off + ch, none⟩ = some (.bool x) := by have := K3.at2.ls_rd.cell hx 0 rfl; simpa [Enc.flag] using this
        have hcc := K3.at2.ls_rd.caps.2
        have hc1 : (ch : Int) < (N : Int) := by omega
        replace hN := Lib.hid hN
        cases x with
        | true =>
          clear K3
          have b0 : wc.cell? ⟨br, 0, none⟩ = some (.int .i64 0) := K2.cellOf 0 rfl
          have b1 : wc.cell? ⟨br, 1, none⟩ = some (.int .i64 0) := K2.cellOf 1 rfl
          have b2 : wc.cell? ⟨br, 2, none⟩ = some (.int .i64 0) := K2.cellOf 2 rfl
          have b3 : wc.cell? ⟨br, 3, none⟩ = some (.int .i64 0) := K2.cellOf 3 rfl
          have b4 : wc.cell? ⟨br, 4, none⟩ = some (.int .i64 0) := K2.cellOf 4 rfl
          have b5 : wc.cell? ⟨br, 5, none⟩ = some (.int .u64 0) := K2.cellOf 5 rfl
          have b6 : wc.cell? ⟨br, 6, none⟩ = some (.int .u64 0) := K2.cellOf 6 rfl
          have g0 := K2.frozenOf 0
          have g1 := K2.frozenOf 1
          have g2 := K2.frozenOf 2
          have g3 := K2.frozenOf 3
          have g4 := K2.frozenOf 4
          have g5 := K2.frozenOf 5
          have g6 := K2.frozenOf 6

          replace K2 := Lib.hid K2
          clear hx h1c h1m
          go_wp2_with fail
          replace K2 := K2.out
          have K9 := ((((((K2.setCell (i := 0) (.int .i64 0)).setCell (i := 1) (.int .i64 0)).setCell (i := 2) (.int .i64 0)).setCell (i := 3) (.int .i64 0)).setCell (i := 4) (.int .i64 0)).setCell (i := 5) (.int .u64 0)).setCell (i := 6) (.int .u64 0)
          generalize World.setCell _ _ _ = w9 at K9 ⊢
          have r0 : w9.cell? ⟨br, 0, none⟩ = some (.int .i64 0) := K9.cellOf 0 rfl
          have r1_ : w9.cell? ⟨br, 1, none⟩ = some (.int .i64 0) := K9.cellOf 1 rfl
          have r2 : w9.cell? ⟨br, 2, none⟩ = some (.int .i64 0) := K9.cellOf 2 rfl
          have r3 : w9.cell? ⟨br, 3, none⟩ = some (.int .i64 0) := K9.cellOf 3 rfl
          have r4 : w9.cell? ⟨br, 4, none⟩ = some (.int .i64 0) := K9.cellOf 4 rfl
          have r5 : w9.cell? ⟨br, 5, none⟩ = some (.int .u64 0) := K9.cellOf 5 rfl
          have r6 : w9.cell? ⟨br, 6, none⟩ = some (.int .u64 0) := K9.cellOf 6 rfl
          have hb : r1.tell fst ch n = (r1, noStep) := by unfold Rf.tell; rw [hxd.out]; rfl
          rw [hbn.out, hb]
          refine bodyPost_ret (v := stv noStep) ?_ rfl ⟨rfl, K9.tail.tail⟩
          simp [results, Try.results35, go_sem, r0, r1_, r2, r3, r4, r5, r6, stv, noStep]

        | false =>
          have hr := K3.at2.ls_rd
          have H5 := Lib.hid (K3.ls_nil Enc.flag 4)
          clear K2 hx K3
          replace hr := Lib.hid hr
          replace h1c := Lib.hid h1c
          have hN6 : Hid (N * 1 ≤ 140737488355328) := by show _ ≤ _; omega
          have hl0 : Hid (([] : List Bool).length + r1.come.length = N) := by show _ = _; rw [hN.out]; simp
          replace h1m := Lib.hid h1m
          go_wp2_with (at_builtin; refine wpList_appendN (E := Enc.flag) N rfl (.const (.slice none 0 0)) (.tmp 80) 44 rfl 4 _ 1 1 Try.underlying44 infoB rfl (by decide) (by decide) rfl rfl _ rfl H5.out hr.out hN6.out hl0.out ?_)
          intro A5 c5 w5 H6
          try rw [List.nil_append] at H6
          obtain ⟨g5, o5, rfl⟩ := H6.ls_rd.some_ (by have := hN.out; have := h1c.out; omega)
          have hc5 := H6.ls_rd.caps.2
          have f4 := H6.at1.frozenOf 4
          have d4 := H6.at1.cellOf 4 rfl
          have H7 := Lib.hid (H6.at1.setCellTo 4 (.slice (some ⟨g5, o5, none⟩) N c5) #[.slice Am r1.m.length cm, .int .u64 r1.last, .int .u64 r1.under, .bool r1.over, .slice (some ⟨g5, o5, none⟩) N c5, .slice Ak r1.cap.length ck] rfl)
          clear H5 H6 hr k4 cx hcc
          go_upto_region 9 with (fail)
          generalize World.setCell _ _ _ = w6 at H7 ⊢
          clear f4 d4
          have k4 : w6.cell? ⟨p, 4, none⟩ = some (.slice (some ⟨g5, o5, none⟩) N c5) := H7.out.cellOf 4 rfl
          obtain ⟨x5, hx5⟩ : ∃ x, r1.come[ch]? = some x := ⟨_, List.getElem?_eq_getElem (by rw [hN.out]; exact h1c.out)⟩
          have cx : w6.cell? ⟨g5, o5 + ch, none⟩ = some (.bool x5) := by have := H7.out.at1.ls_rd.cell hx5 0 rfl; simpa [Enc.flag] using this
          have fx := H7.out.at1.ls_frozen (o5 + ch)
          have H8 := Lib.hid (H7.out.at1.ls_set rfl ch h1c.out true (.bool true) rfl)
          have hcl : Hid ((r1.come.set ch true).length = N) := by show _ = _; rw [List.length_set]; exact hN.out
          clear hx5 H7
          obtain ⟨cm2, hcm2⟩ : ∃ l, r1.come.set ch true = l := ⟨_, rfl⟩
          rw [hcm2] at H8 hcl
          replace hcm2 := Lib.hid hcm2
          go_upto_region 10 with (fail)
          generalize World.setCell _ _ _ = w7 at H8 ⊢
          clear k4 cx fx
          have k4 : w7.cell? ⟨p, 4, none⟩ = some (.slice (some ⟨g5, o5, none⟩) N c5) := H8.out.at1.cellOf 4 rfl
          go_wp2_with fail
          go_loopg [8, 9] N (fun k bv iv wr => ∃ (j : Nat) (b : Bool), k + j = N ∧ iv = .int .i64 j ∧ bv = .bool b ∧ Hid ((!has (cm2.take j) false) = b) ∧ Hid (wr = w7))
          case atStart => exact ⟨0, true, rfl, rfl, rfl, rfl, Lib.hid rfl⟩
          case round =>
            obtain ⟨j, b, hk, rfl, rfl, he, hw0⟩ := hrel
            have hw0 := hw0.out
            subst hw0
            have hjN : j ≤ N := by omega
            replace hk := Lib.hid hk
            rcases Nat.lt_or_ge j N with hj | hj
            · have hj0 : (0 : Int) ≤ (j : Int) := by omega
              have hj1 : (j : Int) < (N : Int) := by omega
              obtain ⟨y, hy⟩ : ∃ y, cm2[j]? = some y := ⟨_, List.getElem?_eq_getElem (by have := hcl.out; omega)⟩
              have s0 : wr.cell? ⟨g5, o5 + j, none⟩ = some (.bool y) := by have := H8.out.ls_rd.cell hy 0 rfl; simpa [Enc.flag] using this
              have hstep : Hid ((!has (cm2.take (j + 1)) false) = (b && y)) := by show _ = _; rw [has_false_take _ _ _ hy, he.out]
              have hw6 : IntKind.i64.wrap ((j : Int) + 1) = ((j + 1 : Nat) : Int) := by rw [IntWalk.i64_in _ (by have := h1m.out; omega)]; omega
              clear hy
              cases b with
              | true =>
                go_wp2_with fail
                go_roundg (N - (j + 1))
                case measure => have := hk.out; omega
                case rel => exact ⟨j + 1, y, by have := hk.out; omega, by go_num, rfl, hstep, Lib.hid rfl⟩
              | false =>
                clear s0
                go_wp2_with fail
                go_roundg (N - (j + 1))
                case measure => have := hk.out; omega
                case rel => exact ⟨j + 1, false, by have := hk.out; omega, by go_num, rfl, hstep, Lib.hid rfl⟩
            · have hj1 : decide ((j : Int) < (N : Int)) = false := by rw [decide_eq_false_iff_not]; omega
              have hj2 : decide (j < N) = false := by rw [decide_eq_false_iff_not]; omega
              have hal : Hid ((!has cm2 false) = b) := by
                have h := he.out
                rwa [List.take_of_length_le (by have := hcl.out; omega)] at h
              clear hj he
              go_upto_region 15 with (fail)
              have hq := Lib.hid (r1.tell_eq ch n fst b cm2 hxd.out hcm2.out hal.out)
              rw [← hbn.out] at hq
              have K4 := Lib.hid ((H8.out.at3.tail.at2.at2).alloc (.cells #[.int .i64 0, .int .i64 0, .int .i64 0, .int .i64 0, .int .i64 0, .int .u64 0, .int .u64 0] 38))
              clear H8 hbn hxd hcm2 hal k4
              go_upto_region 16 with (fail)
              generalize World.alloc _ _ = w8 at K4 ⊢
              generalize wr.heap.size = bs at K4 ⊢
              have k3 : w8.cell? ⟨p, 3, none⟩ = some (.bool r1.over) := K4.out.at1.cellOf 3 rfl
              go_cut [125] (fun bv wx => bv = .bool ((r1.over && fst) || (!r1.over && b)) ∧ wx = w8)
              case first =>
                obtain ⟨o, ho⟩ : ∃ o, r1.over = o := ⟨_, rfl⟩
                rw [ho] at k3
                replace ho := Lib.hid ho
                clear hq K4 hN hl0
                cases o <;> cases fst <;> cases b
                all_goals
                  go_wp2_with fail
                  go_meet
                  case rel => exact ⟨by rw [ho.out]; rfl, rfl⟩
              case rest =>
                obtain ⟨rfl, rfl⟩ := hcut
                obtain ⟨td, htd⟩ : ∃ t, ((r1.over && fst) || (!r1.over && b)) = t := ⟨_, rfl⟩
                have hst := Lib.hid (r1.step_eq n fst b td htd)
                rw [htd]
                clear htd k3
                go_upto_if 125 with (fail)
                go_cut [] (fun wx => Hid (Hs w0 wx (Blk bs (.cells (stc (r1.step fst b n)) 38) :: Blk p (.cells #[.slice Am r1.m.length cm, .int .u64 r1.last, .int .u64 r1.under, .bool r1.over, .slice (some ⟨g5, o5, none⟩) N c5, .slice Ak r1.cap.length ck] 62) ::
                  Ls (Enc.num .i64) 2 (.slice Am r1.m.length cm) r1.m :: Ls Enc.flag 4 (.slice (some ⟨g5, o5, none⟩) N c5) cm2 :: Ls EOut 46 (.slice Ak r1.cap.length ck) r1.cap :: Blk br (.cells #[.int .i64 0, .int .i64 0, .int .i64 0, .int .i64 0, .int .i64 0, .int .u64 0, .int .u64 0] 38) :: Blk bx (.cells #[.int .i64 f.1, .int .i64 f.2.1.1, .int .i64 f.2.1.2.1, .int .i64 f.2.1.2.2, .int .i64 f.2.2.1, .int .u64 n, .bool ov] 31) :: R)))
                case first =>
                  cases td with
                  | true =>
                    have b0 : wc.cell? ⟨bs, 0, none⟩ = some (.int .i64 0) := K4.out.cellOf 0 rfl
                    have b1 : wc.cell? ⟨bs, 1, none⟩ = some (.int .i64 0) := K4.out.cellOf 1 rfl
                    have b2 : wc.cell? ⟨bs, 2, none⟩ = some (.int .i64 0) := K4.out.cellOf 2 rfl
                    have b3 : wc.cell? ⟨bs, 3, none⟩ = some (.int .i64 0) := K4.out.cellOf 3 rfl
                    have b4 : wc.cell? ⟨bs, 4, none⟩ = some (.int .i64 0) := K4.out.cellOf 4 rfl
                    have b5 : wc.cell? ⟨bs, 5, none⟩ = some (.int .u64 0) := K4.out.cellOf 5 rfl
                    have b6 : wc.cell? ⟨bs, 6, none⟩ = some (.int .u64 0) := K4.out.cellOf 6 rfl
                    have g0 := K4.out.frozenOf 0
                    have g1 := K4.out.frozenOf 1
                    have g2 := K4.out.frozenOf 2
                    have g3 := K4.out.frozenOf 3
                    have g4 := K4.out.frozenOf 4
                    have g5 := K4.out.frozenOf 5
                    have g6 := K4.out.frozenOf 6

                    have x5 : wc.cell? ⟨bx, 5, none⟩ = some (.int .u64 n) := K4.out.at6.cellOf 5 rfl
                    have K5 := Lib.hid (((((((K4.out.setCell (i := 0) (.int .i64 3)).setCell (i := 1) (.int .i64 0)).setCell (i := 2) (.int .i64 0)).setCell (i := 3) (.int .i64 0)).setCell (i := 4) (.int .i64 0)).setCell (i := 5) (.int .u64 n)).setCell (i := 6) (.int .u64 0))
                    go_wp2_with fail
                    go_meet
                    case rel =>
                      rw [hst.out]
                      exact K5
                  | false =>
                    go_wp2_with fail
                    go_meet
                    case rel =>
                      rw [hst.out]
                      exact K4
                case rest =>
                  clear K4 hst
                  obtain ⟨⟨s0, ⟨s1, s2, s3⟩, s4, s5, s6⟩, hs⟩ : ∃ q, r1.step fst b n = q := ⟨_, rfl⟩
                  rw [hs] at hcut hq
                  have K6 := hcut.out
                  unfold stc at K6
                  dsimp only at K6
                  clear hcut hs
                  cases b with
                  | true =>
                    have x5 : wc.cell? ⟨bx, 5, none⟩ = some (.int .u64 n) := K6.at6.cellOf 5 rfl
                    have f6 := K6.frozenOf 6
                    have d6 := K6.cellOf 6 rfl
                    have K7 := K6.setCell (i := 6) (.int .u64 n)
                    have f2 := K7.at1.frozenOf 2
                    have d2 := K7.at1.cellOf 2 rfl
                    have K8 := Lib.hid (K7.at1.setCell (i := 2) (.int .u64 0)).at1
                    clear K6 K7
                    simp only [List.setIfInBounds_toArray, List.set_cons_zero, List.set_cons_succ] at K8
                    rw [if_pos rfl] at hq
                    go_upto_region 20 with (fail)
                    clear x5 f6 d6 f2 d2
                    generalize World.setCell _ _ _ = wy at K8 ⊢
                    have K6 := K8.out
                    clear K8
                    have e0 : wy.cell? ⟨bs, 0, none⟩ = some (.int .i64 s0) := K6.cellOf 0 rfl
                    have e1 : wy.cell? ⟨bs, 1, none⟩ = some (.int .i64 s1) := K6.cellOf 1 rfl
                    have e2 : wy.cell? ⟨bs, 2, none⟩ = some (.int .i64 s2) := K6.cellOf 2 rfl
                    have e3 : wy.cell? ⟨bs, 3, none⟩ = some (.int .i64 s3) := K6.cellOf 3 rfl
                    have e4 : wy.cell? ⟨bs, 4, none⟩ = some (.int .i64 s4) := K6.cellOf 4 rfl
                    have e5 : wy.cell? ⟨bs, 5, none⟩ = some (.int .u64 s5) := K6.cellOf 5 rfl
                    have e6 : wy.cell? ⟨bs, 6, none⟩ = some (.int .u64 n) := K6.cellOf 6 rfl
                    have b0 : wy.cell? ⟨br, 0, none⟩ = some (.int .i64 0) := K6.at5.cellOf 0 rfl
                    have b1 : wy.cell? ⟨br, 1, none⟩ = some (.int .i64 0) := K6.at5.cellOf 1 rfl
                    have b2 : wy.cell? ⟨br, 2, none⟩ = some (.int .i64 0) := K6.at5.cellOf 2 rfl
                    have b3 : wy.cell? ⟨br, 3, none⟩ = some (.int .i64 0) := K6.at5.cellOf 3 rfl
                    have b4 : wy.cell? ⟨br, 4, none⟩ = some (.int .i64 0) := K6.at5.cellOf 4 rfl
                    have b5 : wy.cell? ⟨br, 5, none⟩ = some (.int .u64 0) := K6.at5.cellOf 5 rfl
                    have b6 : wy.cell? ⟨br, 6, none⟩ = some (.int .u64 0) := K6.at5.cellOf 6 rfl
                    have g0 := K6.at5.frozenOf 0
                    have g1 := K6.at5.frozenOf 1
                    have g2 := K6.at5.frozenOf 2
                    have g3 := K6.at5.frozenOf 3
                    have g4 := K6.at5.frozenOf 4
                    have g5 := K6.at5.frozenOf 5
                    have g6 := K6.at5.frozenOf 6
                    go_wp2_with fail
                    have K9 := (((((((K6.at5.setCell (i := 0) (.int .i64 s0)).setCell (i := 1) (.int .i64 s1)).setCell (i := 2) (.int .i64 s2)).setCell (i := 3) (.int .i64 s3)).setCell (i := 4) (.int .i64 s4)).setCell (i := 5) (.int .u64 s5)).setCell (i := 6) (.int .u64 n))
                    generalize World.setCell _ _ _ = w9 at K9 ⊢
                    simp only [List.setIfInBounds_toArray, List.set_cons_zero, List.set_cons_succ] at K9
                    have r0 : w9.cell? ⟨br, 0, none⟩ = some (.int .i64 s0) := K9.cellOf 0 rfl
                    have rr1 : w9.cell? ⟨br, 1, none⟩ = some (.int .i64 s1) := K9.cellOf 1 rfl
                    have r2 : w9.cell? ⟨br, 2, none⟩ = some (.int .i64 s2) := K9.cellOf 2 rfl
                    have r3 : w9.cell? ⟨br, 3, none⟩ = some (.int .i64 s3) := K9.cellOf 3 rfl
                    have r4 : w9.cell? ⟨br, 4, none⟩ = some (.int .i64 s4) := K9.cellOf 4 rfl
                    have r5 : w9.cell? ⟨br, 5, none⟩ = some (.int .u64 s5) := K9.cellOf 5 rfl
                    have r6 : w9.cell? ⟨br, 6, none⟩ = some (.int .u64 n) := K9.cellOf 6 rfl
                    have KF := (RefP.mk_ (r := ⟨r1.m, r1.last, 0, r1.over, cm2, r1.cap⟩) K9.tail.tail).at1.tail
                    rw [hq.out]
                    refine bodyPost_ret (v := stv (s0, (s1, s2, s3), s4, s5, n)) ?_ rfl ⟨rfl, KF⟩
                    simp [results, Try.results35, go_sem, r0, rr1, r2, r3, r4, r5, r6, stv]

                  | false =>
                    have K8 := Lib.hid K6
                    clear K6
                    rw [if_neg (by simp)] at hq
                    go_upto_region 20 with (fail)
                    generalize wc = wy at K8 ⊢
                    have K6 := K8.out
                    clear K8
                    have e0 : wy.cell? ⟨bs, 0, none⟩ = some (.int .i64 s0) := K6.cellOf 0 rfl
                    have e1 : wy.cell? ⟨bs, 1, none⟩ = some (.int .i64 s1) := K6.cellOf 1 rfl
                    have e2 : wy.cell? ⟨bs, 2, none⟩ = some (.int .i64 s2) := K6.cellOf 2 rfl
                    have e3 : wy.cell? ⟨bs, 3, none⟩ = some (.int .i64 s3) := K6.cellOf 3 rfl
                    have e4 : wy.cell? ⟨bs, 4, none⟩ = some (.int .i64 s4) := K6.cellOf 4 rfl
                    have e5 : wy.cell? ⟨bs, 5, none⟩ = some (.int .u64 s5) := K6.cellOf 5 rfl
                    have e6 : wy.cell? ⟨bs, 6, none⟩ = some (.int .u64 s6) := K6.cellOf 6 rfl
                    have b0 : wy.cell? ⟨br, 0, none⟩ = some (.int .i64 0) := K6.at5.cellOf 0 rfl
                    have b1 : wy.cell? ⟨br, 1, none⟩ = some (.int .i64 0) := K6.at5.cellOf 1 rfl
                    have b2 : wy.cell? ⟨br, 2, none⟩ = some (.int .i64 0) := K6.at5.cellOf 2 rfl
                    have b3 : wy.cell? ⟨br, 3, none⟩ = some (.int .i64 0) := K6.at5.cellOf 3 rfl
                    have b4 : wy.cell? ⟨br, 4, none⟩ = some (.int .i64 0) := K6.at5.cellOf 4 rfl
                    have b5 : wy.cell? ⟨br, 5, none⟩ = some (.int .u64 0) := K6.at5.cellOf 5 rfl
                    have b6 : wy.cell? ⟨br, 6, none⟩ = some (.int .u64 0) := K6.at5.cellOf 6 rfl
                    have g0 := K6.at5.frozenOf 0
                    have g1 := K6.at5.frozenOf 1
                    have g2 := K6.at5.frozenOf 2
                    have g3 := K6.at5.frozenOf 3
                    have g4 := K6.at5.frozenOf 4
                    have g5 := K6.at5.frozenOf 5
                    have g6 := K6.at5.frozenOf 6
                    go_wp2_with fail
                    have K9 := (((((((K6.at5.setCell (i := 0) (.int .i64 s0)).setCell (i := 1) (.int .i64 s1)).setCell (i := 2) (.int .i64 s2)).setCell (i := 3) (.int .i64 s3)).setCell (i := 4) (.int .i64 s4)).setCell (i := 5) (.int .u64 s5)).setCell (i := 6) (.int .u64 s6))
                    generalize World.setCell _ _ _ = w9 at K9 ⊢
                    simp only [List.setIfInBounds_toArray, List.set_cons_zero, List.set_cons_succ] at K9
                    have r0 : w9.cell? ⟨br, 0, none⟩ = some (.int .i64 s0) := K9.cellOf 0 rfl
                    have rr1 : w9.cell? ⟨br, 1, none⟩ = some (.int .i64 s1) := K9.cellOf 1 rfl
                    have r2 : w9.cell? ⟨br, 2, none⟩ = some (.int .i64 s2) := K9.cellOf 2 rfl
                    have r3 : w9.cell? ⟨br, 3, none⟩ = some (.int .i64 s3) := K9.cellOf 3 rfl
                    have r4 : w9.cell? ⟨br, 4, none⟩ = some (.int .i64 s4) := K9.cellOf 4 rfl
                    have r5 : w9.cell? ⟨br, 5, none⟩ = some (.int .u64 s5) := K9.cellOf 5 rfl
                    have r6 : w9.cell? ⟨br, 6, none⟩ = some (.int .u64 s6) := K9.cellOf 6 rfl
                    have KF := (RefP.mk_ (r := ⟨r1.m, r1.last, r1.under, r1.over, cm2, r1.cap⟩) K9.tail.tail).at1.tail
                    rw [hq.out]
                    refine bodyPost_ret (v := stv (s0, (s1, s2, s3), s4, s5, s6)) ?_ rfl ⟨rfl, KF⟩
                    simp [results, Try.results35, go_sem, r0, rr1, r2, r3, r4, r5, r6, stv]

end Go.Proofs.Ytlhgmfdmkckmhaa

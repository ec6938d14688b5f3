import Derived.Test.YtlhgmfdmkckmhaaRb
import Derived.Test.YtlhgmfdmkckmhaaProg
import Derived.Test.YtlhgmfdmkckmhaaLs
import Derived.Outline
import Derived.StillTailTactics
import Derived.Deep.DeepCutAuto
import Derived.Deep.CutBlock
import Derived.Deep.LoopGhost
import Derived.Deep.QuietTactic
import Derived.BigQuiet
import Derived.Deep.RegionHeld3
import Derived.Deep.RegionLaw
set_option linter.unusedVariables false
set_option linter.unusedSimpArgs false
namespace Go.Proofs.Ytlhgmfdmkckmhaa
open Go.RowKit
theorem Hs.setCellTo {b : Nat} {cs : Array Value} {t : TypeId} {w0 w : World} {R : List HP} (H : Hs w0 w (Blk b (.cells cs t (0, 0)) :: R)) (i : Nat) (v : Value) (cs' : Array Value) (h : cs.setIfInBounds i v = cs') : Hs w0 (w.setCell ⟨b, i, none⟩ v) (Blk b (.cells cs' t (0, 0)) :: R) := h ▸ H.setCell v
set_option maxRecDepth 100000 in
set_option maxHeartbeats 1600000 in
theorem rload24 (p : Nat) (r : Rf) (mv : Value) (ms : List Int) (n : Nat) (hn : n ≤ 64) (w w0 : World) (R : List HP) (H : Hs w0 w (RefP p r :: R)) (hr : ∀ w', Hs w0 w' R → RdL (Enc.num .i64) w' mv ms) :
    Calls Try.prog 24 #[.pointer (some ⟨p, 0, none⟩), mv, .int .i64 n] w fun e w' => e = .returned (.tuple #[]) ∧ Hs w0 w' (RefP p (r.load ms n) :: R) := by
  obtain ⟨Aq, cq, hmv⟩ := (hr w H.tail).form
  subst hmv
  have hcq := (hr w H.tail).caps.2
  obtain ⟨Am, cm, Ac, cc, Ak, ck, H⟩ := RefP.open_ H
  have m2 : ∀ w, (Instr.makeSlice 44 (.int .i64 (n : Int)) (.int .i64 (n : Int))).run Try.prog w = .ok (.slice (some ⟨w.heap.size, 0, none⟩) n n) (w.alloc (.cells (madeCells #[.bool false] n) 4)) := run_make_row' (P := Try.prog) 44 4 (.bool false) 1 Try.underlying44 infoB rfl .i64 .i64 n (by omega) (by omega)
  have hn6 : Hid (n ≤ 1000000) := by show _ ≤ _; omega
  have hn64 : Hid (n ≤ 64) := hn
  have H1 := Lib.hid H.drew.at1.tail.at1.tail.at1.tail
  obtain ⟨Q, hQ⟩ : ∃ Q, ms.length = Q := ⟨_, rfl⟩
  rw [hQ] at hcq hr ⊢
  replace hr := Lib.hid hr
  replace hQ := Lib.hid hQ
  clear H hn
  go_enter Try.func24, Try.ntmps24
  go_wp2_with fail
  go_cut [] (fun wc => Hid (Hs w0 wc (RefP p ⟨[], r.last, 0, r.over, List.replicate n false, []⟩ :: R)))
  case first =>
    refine wp_region_left (S := fun _ : World => True) 8 mixed ?_
    have hS : (fun _ : World => True) w.drew := by trivial
    generalize w.drew = wz at *
    refine Left.pure (i := 0) (v := ?va0_0_1) rfl (by kernel_rfl) (fun _ _ _ h => h) (Or.inr hS) (Or.inl ⟨by kernel_rfl, fun w _ => ?hya0_0_1⟩) ?resta0_0_1
    case hya0_0_1 => (go_simp; try with_reducible rfl)
    try simp only [Act.put, List.setIfInBounds_toArray, List.set_cons_zero, List.set_cons_succ]
    refine Left.pure (i := 1) (v := ?va0_1_2) rfl (by kernel_rfl) (fun _ _ _ h => h) (Or.inr hS) (Or.inl ⟨by kernel_rfl, fun w _ => ?hya0_1_2⟩) ?resta0_1_2
    case hya0_1_2 => (go_simp; try with_reducible rfl)
    try simp only [Act.put, List.setIfInBounds_toArray, List.set_cons_zero, List.set_cons_succ]
    refine Left.pure (i := 2) (v := ?va0_2_3) rfl (by kernel_rfl) (fun _ _ _ h => h) (Or.inr hS) (Or.inl ⟨by kernel_rfl, fun w _ => ?hya0_2_3⟩) ?resta0_2_3
    case hya0_2_3 => (go_simp; try with_reducible rfl)
    try simp only [Act.put, List.setIfInBounds_toArray, List.set_cons_zero, List.set_cons_succ]
    refine Left.pure (i := 3) (v := ?va0_3_4) rfl (by kernel_rfl) (fun _ _ _ h => h) (Or.inr hS) (Or.inl ⟨by kernel_rfl, fun w _ => ?hya0_3_4⟩) ?resta0_3_4
    case hya0_3_4 => (go_simp; try with_reducible rfl)
    try simp only [Act.put, List.setIfInBounds_toArray, List.set_cons_zero, List.set_cons_succ]
    refine Left.pure (i := 4) (v := ?va0_4_5) rfl (by kernel_rfl) (fun _ _ _ h => h) (Or.inr hS) (Or.inl ⟨by kernel_rfl, fun w _ => ?hya0_4_5⟩) ?resta0_4_5
    case hya0_4_5 => (go_simp; try with_reducible rfl)
    try simp only [Act.put, List.setIfInBounds_toArray, List.set_cons_zero, List.set_cons_succ]
    refine Left.pure (i := 6) (v := ?va0_6_6) rfl (by kernel_rfl) (fun _ _ _ h => h) (Or.inr hS) (Or.inl ⟨by kernel_rfl, fun w _ => ?hya0_6_6⟩) ?resta0_6_6
    case hya0_6_6 => (go_simp; try with_reducible rfl)
    try simp only [Act.put, List.setIfInBounds_toArray, List.set_cons_zero, List.set_cons_succ]
    refine Left.pure (i := 7) (v := ?va0_7_7) rfl (by kernel_rfl) (fun _ _ _ h => h) (Or.inr hS) (Or.inl ⟨by kernel_rfl, fun w _ => ?hya0_7_7⟩) ?resta0_7_7
    case hya0_7_7 => (go_simp; try with_reducible rfl)
    try simp only [Act.put, List.setIfInBounds_toArray, List.set_cons_zero, List.set_cons_succ]
    refine Left.two (i := 5) (j := 8) rfl rfl (by kernel_rfl) (fun K hK => ?_) (fun K hK => ?_)
    · skip
      have H2 := Lib.hid ((H1.out.ls_made (E := Enc.flag) 4 false (.bool false) rfl n hn6.out).at1)
      go_simp
      generalize hgz : World.heap wz = hp at H2 ⊢
      generalize hp.size = gz at H2 ⊢
      clear hgz
      generalize World.alloc _ _ = wz at H2 ⊢
      clear H1
      have H1 := H2
      clear H2
      replace hS : (fun _ : World => True) wz := by trivial
      refine hK.out _ _ (Or.inr hS) ?_
      clear hK K
      try simp only [Act.put, List.setIfInBounds_toArray, List.set_cons_zero, List.set_cons_succ]
      refine Left.run (i := 8) rfl (by kernel_rfl) (fun K hK => ?_)
      have f := H1.out.frozenOf 0
      have d := H1.out.cellOf 0 rfl
      have H2 := Lib.hid (H1.out.setCell (i := 0) (.slice none 0 0))
      go_simp
      generalize World.setCell _ _ _ = wz at H2 ⊢
      simp only [List.setIfInBounds_toArray, List.set_cons_zero, List.set_cons_succ] at H2
      clear f d H1
      have H1 := H2
      clear H2
      refine hK.out _ _ (Or.inl (by kernel_rfl)) ?_
      clear hK K
      try simp only [Act.put, List.setIfInBounds_toArray, List.set_cons_zero, List.set_cons_succ]
      refine Left.pure (i := 9) (v := ?va0_9_8) rfl (by kernel_rfl) (fun _ _ _ h => h) (Or.inl (by kernel_rfl)) (Or.inl ⟨by kernel_rfl, fun w _ => ?hya0_9_8⟩) ?resta0_9_8
      case hya0_9_8 => (go_simp; try with_reducible rfl)
      try simp only [Act.put, List.setIfInBounds_toArray, List.set_cons_zero, List.set_cons_succ]
      refine Left.pure (i := 10) (v := ?va0_10_9) rfl (by kernel_rfl) (fun _ _ _ h => h) (Or.inl (by kernel_rfl)) (Or.inl ⟨by kernel_rfl, fun w _ => ?hya0_10_9⟩) ?resta0_10_9
      case hya0_10_9 => (go_simp; try with_reducible rfl)
      try simp only [Act.put, List.setIfInBounds_toArray, List.set_cons_zero, List.set_cons_succ]
      refine Left.run (i := 11) rfl (by kernel_rfl) (fun K hK => ?_)
      have f := H1.out.frozenOf 4
      have d := H1.out.cellOf 4 rfl
      have H2 := Lib.hid (H1.out.setCell (i := 4) (.slice (some ⟨gz, 0, none⟩) n n))
      go_simp
      generalize World.setCell _ _ _ = wz at H2 ⊢
      simp only [List.setIfInBounds_toArray, List.set_cons_zero, List.set_cons_succ] at H2
      clear f d H1
      have H1 := H2
      clear H2
      refine hK.out _ _ (Or.inl (by kernel_rfl)) ?_
      clear hK K
      try simp only [Act.put, List.setIfInBounds_toArray, List.set_cons_zero, List.set_cons_succ]
      refine Left.pure (i := 12) (v := ?va0_12_10) rfl (by kernel_rfl) (fun _ _ _ h => h) (Or.inl (by kernel_rfl)) (Or.inl ⟨by kernel_rfl, fun w _ => ?hya0_12_10⟩) ?resta0_12_10
      case hya0_12_10 => (go_simp; try with_reducible rfl)
      try simp only [Act.put, List.setIfInBounds_toArray, List.set_cons_zero, List.set_cons_succ]
      refine Left.pure (i := 13) (v := ?va0_13_11) rfl (by kernel_rfl) (fun _ _ _ h => h) (Or.inl (by kernel_rfl)) (Or.inl ⟨by kernel_rfl, fun w _ => ?hya0_13_11⟩) ?resta0_13_11
      case hya0_13_11 => (go_simp; try with_reducible rfl)
      try simp only [Act.put, List.setIfInBounds_toArray, List.set_cons_zero, List.set_cons_succ]
      refine Left.run (i := 14) rfl (by kernel_rfl) (fun K hK => ?_)
      have f := H1.out.frozenOf 2
      have d := H1.out.cellOf 2 rfl
      have H2 := Lib.hid (H1.out.setCell (i := 2) (.int .u64 0))
      go_simp
      generalize World.setCell _ _ _ = wz at H2 ⊢
      simp only [List.setIfInBounds_toArray, List.set_cons_zero, List.set_cons_succ] at H2
      clear f d H1
      have H1 := H2
      clear H2
      refine hK.out _ _ (Or.inl (by kernel_rfl)) ?_
      clear hK K
      try simp only [Act.put, List.setIfInBounds_toArray, List.set_cons_zero, List.set_cons_succ]
      refine Left.pure (i := 15) (v := ?va0_15_12) rfl (by kernel_rfl) (fun _ _ _ h => h) (Or.inl (by kernel_rfl)) (Or.inl ⟨by kernel_rfl, fun w _ => ?hya0_15_12⟩) ?resta0_15_12
      case hya0_15_12 => (go_simp; try with_reducible rfl)
      try simp only [Act.put, List.setIfInBounds_toArray, List.set_cons_zero, List.set_cons_succ]
      refine Left.pure (i := 16) (v := ?va0_16_13) rfl (by kernel_rfl) (fun _ _ _ h => h) (Or.inl (by kernel_rfl)) (Or.inl ⟨by kernel_rfl, fun w _ => ?hya0_16_13⟩) ?resta0_16_13
      case hya0_16_13 => (go_simp; try with_reducible rfl)
      try simp only [Act.put, List.setIfInBounds_toArray, List.set_cons_zero, List.set_cons_succ]
      refine Left.run (i := 17) rfl (by kernel_rfl) (fun K hK => ?_)
      have f := H1.out.frozenOf 5
      have d := H1.out.cellOf 5 rfl
      have H2 := Lib.hid (H1.out.setCell (i := 5) (.slice none 0 0))
      go_simp
      generalize World.setCell _ _ _ = wz at H2 ⊢
      simp only [List.setIfInBounds_toArray, List.set_cons_zero, List.set_cons_succ] at H2
      clear f d H1
      have H1 := H2
      clear H2
      refine hK.out _ _ (Or.inl (by kernel_rfl)) ?_
      clear hK K
      try simp only [Act.put, List.setIfInBounds_toArray, List.set_cons_zero, List.set_cons_succ]
      refine Left.done (by kernel_rfl) ?_ _
      go_wp2_with fail
      go_meet
      case rel => exact Lib.hid (RefP.mk_ (r := ⟨[], r.last, 0, r.over, List.replicate n false, []⟩) ((H1.out.ls_nil EOut 46).ls_nil (Enc.num .i64) 2).at1.at3.at2.at3)
    · skip
      have f := H1.out.frozenOf 0
      have d := H1.out.cellOf 0 rfl
      have H2 := Lib.hid (H1.out.setCell (i := 0) (.slice none 0 0))
      go_simp
      generalize World.setCell _ _ _ = wz at H2 ⊢
      simp only [List.setIfInBounds_toArray, List.set_cons_zero, List.set_cons_succ] at H2
      clear f d H1
      have H1 := H2
      clear H2
      refine hK.out _ _ (Or.inl (by kernel_rfl)) ?_
      clear hK K
      try simp only [Act.put, List.setIfInBounds_toArray, List.set_cons_zero, List.set_cons_succ]
      refine Left.run (i := 5) rfl (by kernel_rfl) (fun K hK => ?_)
      have H2 := Lib.hid ((H1.out.ls_made (E := Enc.flag) 4 false (.bool false) rfl n hn6.out).at1)
      go_simp
      generalize hgz : World.heap wz = hp at H2 ⊢
      generalize hp.size = gz at H2 ⊢
      clear hgz
      generalize World.alloc _ _ = wz at H2 ⊢
      clear H1
      have H1 := H2
      clear H2
      refine hK.out _ _ (Or.inl (by kernel_rfl)) ?_
      clear hK K
      try simp only [Act.put, List.setIfInBounds_toArray, List.set_cons_zero, List.set_cons_succ]
      refine Left.pure (i := 9) (v := ?va0_9_14) rfl (by kernel_rfl) (fun _ _ _ h => h) (Or.inl (by kernel_rfl)) (Or.inl ⟨by kernel_rfl, fun w _ => ?hya0_9_14⟩) ?resta0_9_14
      case hya0_9_14 => (go_simp; try with_reducible rfl)
      try simp only [Act.put, List.setIfInBounds_toArray, List.set_cons_zero, List.set_cons_succ]
      refine Left.pure (i := 10) (v := ?va0_10_15) rfl (by kernel_rfl) (fun _ _ _ h => h) (Or.inl (by kernel_rfl)) (Or.inl ⟨by kernel_rfl, fun w _ => ?hya0_10_15⟩) ?resta0_10_15
      case hya0_10_15 => (go_simp; try with_reducible rfl)
      try simp only [Act.put, List.setIfInBounds_toArray, List.set_cons_zero, List.set_cons_succ]
      refine Left.run (i := 11) rfl (by kernel_rfl) (fun K hK => ?_)
      have f := H1.out.frozenOf 4
      have d := H1.out.cellOf 4 rfl
      have H2 := Lib.hid (H1.out.setCell (i := 4) (.slice (some ⟨gz, 0, none⟩) n n))
      go_simp
      generalize World.setCell _ _ _ = wz at H2 ⊢
      simp only [List.setIfInBounds_toArray, List.set_cons_zero, List.set_cons_succ] at H2
      clear f d H1
      have H1 := H2
      clear H2
      refine hK.out _ _ (Or.inl (by kernel_rfl)) ?_
      clear hK K
      try simp only [Act.put, List.setIfInBounds_toArray, List.set_cons_zero, List.set_cons_succ]
      refine Left.pure (i := 12) (v := ?va0_12_16) rfl (by kernel_rfl) (fun _ _ _ h => h) (Or.inl (by kernel_rfl)) (Or.inl ⟨by kernel_rfl, fun w _ => ?hya0_12_16⟩) ?resta0_12_16
      case hya0_12_16 => (go_simp; try with_reducible rfl)
      try simp only [Act.put, List.setIfInBounds_toArray, List.set_cons_zero, List.set_cons_succ]
      refine Left.pure (i := 13) (v := ?va0_13_17) rfl (by kernel_rfl) (fun _ _ _ h => h) (Or.inl (by kernel_rfl)) (Or.inl ⟨by kernel_rfl, fun w _ => ?hya0_13_17⟩) ?resta0_13_17
      case hya0_13_17 => (go_simp; try with_reducible rfl)
      try simp only [Act.put, List.setIfInBounds_toArray, List.set_cons_zero, List.set_cons_succ]
      refine Left.run (i := 14) rfl (by kernel_rfl) (fun K hK => ?_)
      have f := H1.out.frozenOf 2
      have d := H1.out.cellOf 2 rfl
      have H2 := Lib.hid (H1.out.setCell (i := 2) (.int .u64 0))
      go_simp
      generalize World.setCell _ _ _ = wz at H2 ⊢
      simp only [List.setIfInBounds_toArray, List.set_cons_zero, List.set_cons_succ] at H2
      clear f d H1
      have H1 := H2
      clear H2
      refine hK.out _ _ (Or.inl (by kernel_rfl)) ?_
      clear hK K
      try simp only [Act.put, List.setIfInBounds_toArray, List.set_cons_zero, List.set_cons_succ]
      refine Left.pure (i := 15) (v := ?va0_15_18) rfl (by kernel_rfl) (fun _ _ _ h => h) (Or.inl (by kernel_rfl)) (Or.inl ⟨by kernel_rfl, fun w _ => ?hya0_15_18⟩) ?resta0_15_18
      case hya0_15_18 => (go_simp; try with_reducible rfl)
      try simp only [Act.put, List.setIfInBounds_toArray, List.set_cons_zero, List.set_cons_succ]
      refine Left.pure (i := 16) (v := ?va0_16_19) rfl (by kernel_rfl) (fun _ _ _ h => h) (Or.inl (by kernel_rfl)) (Or.inl ⟨by kernel_rfl, fun w _ => ?hya0_16_19⟩) ?resta0_16_19
      case hya0_16_19 => (go_simp; try with_reducible rfl)
      try simp only [Act.put, List.setIfInBounds_toArray, List.set_cons_zero, List.set_cons_succ]
      refine Left.run (i := 17) rfl (by kernel_rfl) (fun K hK => ?_)
      have f := H1.out.frozenOf 5
      have d := H1.out.cellOf 5 rfl
      have H2 := Lib.hid (H1.out.setCell (i := 5) (.slice none 0 0))
      go_simp
      generalize World.setCell _ _ _ = wz at H2 ⊢
      simp only [List.setIfInBounds_toArray, List.set_cons_zero, List.set_cons_succ] at H2
      clear f d H1
      have H1 := H2
      clear H2
      refine hK.out _ _ (Or.inl (by kernel_rfl)) ?_
      clear hK K
      try simp only [Act.put, List.setIfInBounds_toArray, List.set_cons_zero, List.set_cons_succ]
      refine Left.done (by kernel_rfl) ?_ _
      go_wp2_with fail
      go_meet
      case rel => exact Lib.hid (RefP.mk_ (r := ⟨[], r.last, 0, r.over, List.replicate n false, []⟩) ((H1.out.ls_nil EOut 46).ls_nil (Enc.num .i64) 2).at1.at3.at2.at3)

  case rest =>
    clear H1
    replace hcut := Lib.hid hcut.out
    go_wp2_with fail
    go_loopg [6] n (fun k iv wr => ∃ (j : Nat), k + j = n ∧ iv = .int .i64 j ∧ Hid (Hs w0 wr (RefP p ⟨(loaded n ms).take j, r.last, 0, r.over, List.replicate n false, []⟩ :: R)))
    case atStart => exact ⟨0, rfl, rfl, hcut⟩
    case round =>
      obtain ⟨j, hk, rfl, H⟩ := hrel
      have hjn : j ≤ n := by omega
      replace hk := Lib.hid hk
      rcases Nat.lt_or_ge j n with hj | hj
      · have hj0 : (0 : Int) ≤ (j : Int) := by omega
        have hj1 : (j : Int) < (n : Int) := by omega
        have hlen : ((loaded n ms).take j).length = j := by rw [List.length_take]; unfold loaded; rw [List.length_map, List.length_range]; omega
        obtain ⟨Bm, dm, Bc, dc, Bk, dk, K⟩ := RefP.open_ H.out
        have hstep : Hid ((loaded n ms).take (j + 1) = (loaded n ms).take j ++ [ms.getD j minMark]) := loaded_take n ms j hj
        have hj64 : j < 64 := by have := hn64.out; omega
        have k0 : wr.cell? ⟨p, 0, none⟩ = some (.slice Bm ((loaded n ms).take j).length dm) := K.cellOf 0 rfl
        rw [hlen] at k0
        have K := Lib.hid K
        clear H
        rw [hlen] at K
        rcases Nat.lt_or_ge j Q with hq | hq
        · have hq1 : (j : Int) < (Q : Int) := by omega
          obtain ⟨gq, oq, rfl⟩ := (hr.out _ K.out.tail.tail.tail.tail).some_ (by have := hQ.out; omega)
          have hx : ms[j]? = some (ms.getD j minMark) := by
            have hjq : j < ms.length := by have := hQ.out; omega
            rw [List.getElem?_eq_getElem hjq]
            simp [List.getD, hjq]
          generalize ms.getD j minMark = x at *
          have s0 : wr.cell? ⟨gq, oq + j, none⟩ = some (.int .i64 x) := by have := (hr.out wr K.out.tail.tail.tail.tail).cell hx 0 rfl; simpa [Enc.num] using this
          replace hx := Lib.hid hx
          replace hlen := Lib.hid hlen
          go_wp2_with (at_builtin; refine wpList_append1N (E := Enc.num .i64) j hlen.out rfl (.tmp 39) (.tmp 41) 50 rfl 2 _ 1 8 Try.underlying50 infoI rfl (by decide) (by decide) rfl rfl rfl (by simp) K.out.at1 x (by omega) ?_)
          intro A5 c5 w5 H5
          have f0 := H5.at1.frozenOf 0
          have d0 := H5.at1.cellOf 0 rfl
          have H6 := Lib.hid (H5.at1.setCellTo 0 (.slice A5 (j + 1) c5) #[.slice A5 (j + 1) c5, .int .u64 r.last, .int .u64 0, .bool r.over, .slice Bc n dc, .slice Bk 0 dk] rfl)
          rw [← hstep.out] at H6
          clear H5 K k0
          go_wp2_with fail
          go_roundg (n - (j + 1))
          case measure => have := hk.out; omega
          case rel => exact ⟨j + 1, by have := hk.out; omega, by go_num, Lib.hid (RefP.mk_ (r := ⟨(loaded n ms).take (j + 1), r.last, 0, r.over, List.replicate n false, []⟩) H6.out)⟩
        · have hq1 : decide ((j : Int) < (Q : Int)) = false := by rw [decide_eq_false_iff_not]; omega
          have hq2 : decide (j < Q) = false := by rw [decide_eq_false_iff_not]; omega
          have hx : ms.getD j minMark = -9223372036854775808 := by
            simp [List.getD, List.getElem?_eq_none (show ms.length ≤ j by have := hQ.out; omega)]
            rfl
          rw [hx] at hstep
          clear hq hx
          replace hlen := Lib.hid hlen
          go_wp2_with (at_builtin; refine wpList_append1N (E := Enc.num .i64) j hlen.out rfl (.tmp 39) (.tmp 41) 50 rfl 2 _ 1 8 Try.underlying50 infoI rfl (by decide) (by decide) rfl rfl rfl (by simp) K.out.at1 (-9223372036854775808) (by omega) ?_)
          intro A5 c5 w5 H5
          have f0 := H5.at1.frozenOf 0
          have d0 := H5.at1.cellOf 0 rfl
          have H6 := Lib.hid (H5.at1.setCellTo 0 (.slice A5 (j + 1) c5) #[.slice A5 (j + 1) c5, .int .u64 r.last, .int .u64 0, .bool r.over, .slice Bc n dc, .slice Bk 0 dk] rfl)
          rw [← hstep.out] at H6
          clear H5 K k0
          go_wp2_with fail
          go_roundg (n - (j + 1))
          case measure => have := hk.out; omega
          case rel => exact ⟨j + 1, by have := hk.out; omega, by go_num, Lib.hid (RefP.mk_ (r := ⟨(loaded n ms).take (j + 1), r.last, 0, r.over, List.replicate n false, []⟩) H6.out)⟩
      · have hj1 : decide ((j : Int) < (n : Int)) = false := by rw [decide_eq_false_iff_not]; omega
        have hj2 : decide (j < n) = false := by rw [decide_eq_false_iff_not]; omega
        have he : Hid ((loaded n ms).take j = loaded n ms) := List.take_of_length_le (by unfold loaded; rw [List.length_map, List.length_range]; exact hj)
        rw [he.out] at H
        clear hj
        go_wp2_with fail
        go_end0
        exact ⟨rfl, H.out⟩
end Go.Proofs.Ytlhgmfdmkckmhaa

import Derived.Test.YtlhgmfdmkckmhaaAb
import Derived.Test.YtlhgmfdmkckmhaaQu
import Derived.Test.YtlhgmfdmkckmhaaPn
import Derived.IntWalk
import Derived.Laws.MakeOwn
import Derived.Test.YtlhgmfdmkckmhaaProg
import Derived.Test.YtlhgmfdmkckmhaaLs
import Derived.Outline
import Derived.StillTailTactics
import Derived.Deep.DeepCutAuto
import Derived.Deep.CutBlock
import Derived.Deep.LoopGhost
import Derived.Deep.QuietTactic
import Derived.BigQuiet
import Derived.Deep.RegionHeld3
import Derived.Deep.RegionLaw
set_option linter.unusedVariables false
set_option linter.unusedSimpArgs false
namespace Go.Proofs.Ytlhgmfdmkckmhaa
open Go.RowKit
theorem le_sumX : ∀ (D : List Chn) (c : Nat) (d : Chn), D[c]? = some d → d.1 ≤ sumX D
  | [], _, _, h => by simp at h
  | x :: r, 0, d, h => by simp at h; subst h; simp only [sumX]; omega
  | x :: r, c + 1, d, h => by have := le_sumX r c d (by simpa using h); simp only [sumX]; omega
theorem le_sumY : ∀ (D : List Chn) (c : Nat) (d : Chn), D[c]? = some d → d.2.2 ≤ sumY D
  | [], _, _, h => by simp at h
  | x :: r, 0, d, h => by simp at h; subst h; simp only [sumY]; omega
  | x :: r, c + 1, d, h => by have := le_sumY r c d (by simpa using h); simp only [sumY]; omega
theorem gateOf_cap (D : List Chn) : (gateOf D).cap.length ≤ 1000000 := by
  unfold gateOf
  split <;> simp
theorem layd_len (d : Chn) : (layd d).length ≤ d.1 + d.2.2 + 1 := by
  unfold layd
  split <;> simp <;> omega
set_option maxRecDepth 100000 in
set_option maxHeartbeats 8000000 in
theorem gatealigns_walk (n0 : Int) (Aa : Option Addr) (na ca : Nat) (xs : List Int) (Ab : Option Addr) (nb cb : Nat) (ys : List Int) (Ao : Option Addr) (no co : Nat) (os : List Int) (w : World) (hn : (Lit.int .i64 n0).wf = true)
    (hra : RdL (Enc.num .u8) w (.slice Aa na ca) xs) (hoka : ∀ x ∈ xs, (Lit.int .u8 x).wf = true) (hrb : RdL (Enc.num .u8) w (.slice Ab nb cb) ys) (hokb : ∀ x ∈ ys, (Lit.int .u8 x).wf = true) (hro : RdL (Enc.num .u8) w (.slice Ao no co) os) (hoko : ∀ x ∈ os, (Lit.int .u8 x).wf = true) :
    Calls Try.prog 3 #[.int .i64 n0, .slice Aa na ca, .slice Ab nb cb, .slice Ao no co] w fun e w' => e = .returned (.bool true) ∧ Below w.heap.size w w' := by
  clear hn
  obtain ⟨m, hm⟩ : ∃ m : Nat, n0 % 6 = (m : Int) := ⟨(n0 % 6).toNat, by omega⟩
  obtain ⟨N, hN⟩ : ∃ N, N = m + 1 := ⟨_, rfl⟩
  have hw1 : IntKind.i64.wrap (1 + (m : Int)) = (N : Int) := by rw [IntWalk.i64_in _ (by omega)]; omega
  have hN8 : N ≤ 6 := by omega
  have hN1 : 1 ≤ N := by omega
  have hNz : ((N : Int) == 0) = false := by rw [beq_eq_false_iff_ne]; omega
  have hNz2 : (N : Int) ≠ 0 := by omega
  replace hm := Lib.hid hm
  clear hN
  have hcapa := hra.caps.2
  have hcapb := hrb.caps.2
  have hcapo := hro.caps.2
  have hxl := Lib.hid hra.caps.1
  have hyl := Lib.hid hrb.caps.1
  have hol := Lib.hid hro.caps.1
  replace hra := Lib.hid hra
  replace hrb := Lib.hid hrb
  replace hro := Lib.hid hro
  have hmk : ∀ w, (Instr.makeSlice 25 (.int .i64 (N : Int)) (.int .i64 (N : Int))).run Try.prog w = .ok (.slice (some ⟨w.heap.size, 0, none⟩) N N) (w.alloc (.cells (madeCells #[.slice none 0 0] N) 26)) := run_make_row' (P := Try.prog) 25 26 (.slice none 0 0) 24 Try.underlying25 infoFs rfl .i64 .i64 N (by omega) (by omega)
  rcases (show (30 : Int) < (na : Int) ∨ (na : Int) ≤ 30 by omega) with h3 | h3
  · go_enter Try.func3, Try.ntmps3
    go_wp2_with fail
    refine (known8 w w _ (Hs.start w)).mono ?_
    rintro e w1 ⟨rfl, H⟩
    go_wp2_with fail
    refine (place9 n0 6 _ (by omega) (by omega)).mono ?_
    rw [hm.out]
    rintro e w2 ⟨rfl, rfl⟩
    go_wp2_with fail
    go_ret
    exact ⟨rfl, H.under_old⟩
  have h3' : decide ((30 : Int) < (na : Int)) = false := by rw [decide_eq_false_iff_not]; omega
  rcases (show (30 : Int) < (nb : Int) ∨ (nb : Int) ≤ 30 by omega) with h4 | h4
  · go_enter Try.func3, Try.ntmps3
    go_wp2_with fail
    refine (known8 w w _ (Hs.start w)).mono ?_
    rintro e w1 ⟨rfl, H⟩
    go_wp2_with fail
    refine (place9 n0 6 _ (by omega) (by omega)).mono ?_
    rw [hm.out]
    rintro e w2 ⟨rfl, rfl⟩
    go_wp2_with fail
    go_ret
    exact ⟨rfl, H.under_old⟩
  have h4' : decide ((30 : Int) < (nb : Int)) = false := by rw [decide_eq_false_iff_not]; omega
  rcases (show (200 : Int) < (no : Int) ∨ (no : Int) ≤ 200 by omega) with h5 | h5
  · go_enter Try.func3, Try.ntmps3
    go_wp2_with fail
    refine (known8 w w _ (Hs.start w)).mono ?_
    rintro e w1 ⟨rfl, H⟩
    go_wp2_with fail
    refine (place9 n0 6 _ (by omega) (by omega)).mono ?_
    rw [hm.out]
    rintro e w2 ⟨rfl, rfl⟩
    go_wp2_with fail
    go_ret
    exact ⟨rfl, H.under_old⟩
  have h5n : no ≤ 200 := by omega
  have h5' : decide ((200 : Int) < (no : Int)) = false := by rw [decide_eq_false_iff_not]; omega
  have hwl : IntKind.i64.wrap ((na : Int) + (nb : Int)) = (na : Int) + (nb : Int) := IntWalk.i64_in _ (by omega)
  have hwl2 : IntKind.i64.wrap ((na : Int) + (nb : Int) + (N : Int)) = ((na + nb + N : Nat) : Int) := by rw [IntWalk.i64_in _ (by omega)]; omega
  go_enter Try.func3, Try.ntmps3
  go_wp2_with fail
  refine (known8 w w _ (Hs.start w)).mono ?_
  rintro e w1 ⟨rfl, H⟩
  go_wp2_with fail
  refine (place9 n0 6 _ (by omega) (by omega)).mono ?_
  rw [hm.out]
  rintro e w2 ⟨rfl, rfl⟩
  go_wp2_with fail
  have H2 : Hid (Hs w (w1.alloc (.cells (madeCells #[.slice none 0 0] N) 26)) [Ls Enc.slc 26 (.slice (some ⟨w1.heap.size, 0, none⟩) N N) (List.replicate N (none, 0, 0)), Old w]) := H.ls_made (E := Enc.slc) 26 (none, 0, 0) (.slice none 0 0) rfl N (by omega)
  clear H hmk h3' h4' h5'
  generalize World.alloc w1 _ = w2 at *
  generalize w1.heap.size = gq at *
  have H3 : Hid (Hs w w2 [Ls Enc.slc 26 (.slice (some ⟨gq, 0, none⟩) N N) ((List.replicate N (((none, 0, 0), []) : Z Fr)).map (·.1)), RowsS EFr 31 (List.replicate N ((none, 0, 0), [])), Old w]) := by
    have h := (RowsS.nils (E := EFr) (t := 31) H2.out N).at1
    rwa [show (List.replicate N ((none, 0, 0) : Slc)) = (List.replicate N (((none, 0, 0), []) : Z Fr)).map (·.1) by rw [List.map_replicate]] at h
  clear H2
  go_loopg [10] na (fun k iv wr => ∃ (j : Nat) (D : List Chn) (zs : List (Z Fr)), k + j = na ∧ iv = .int .i64 j ∧ Hid (Lay1 N j D ∧ zs.map (·.2) = D.map lay1) ∧ Hid (Hs w wr [Ls Enc.slc 26 (.slice (some ⟨gq, 0, none⟩) N N) (zs.map (·.1)), RowsS EFr 31 zs, Old w]))
  case atStart => exact ⟨0, blank N, _, rfl, rfl, ⟨Lay1.zero N, by rw [blank, List.map_replicate, List.map_replicate]; rfl⟩, H3⟩
  case round =>
    clear H3
    obtain ⟨j, D, zs, hk, rfl, hD, H⟩ := hrel
    replace hk := Lib.hid hk
    rcases Nat.lt_or_ge j na with hj | hj
    · have hj0 : (0 : Int) ≤ (j : Int) := by omega
      have hj1 : (j : Int) < (na : Int) := by omega
      have hw6 : IntKind.i64.wrap ((j : Int) + 1) = ((j + 1 : Nat) : Int) := by rw [IntWalk.i64_in _ (by omega)]; omega
      obtain ⟨x, hx⟩ : ∃ x, xs[j]? = some x := ⟨_, List.getElem?_eq_getElem (by have := hxl.out; omega)⟩
      obtain ⟨hx0, hx1⟩ := u8_in (hoka x (List.mem_of_getElem? hx))
      have hrd := hra.out.old H.out.at2
      obtain ⟨ga, oa, rfl⟩ := hrd.some_ (by have := hxl.out; omega)
      have s0 : wr.cell? ⟨ga, oa + j, none⟩ = some (.int .u8 x) := by have := hrd.cell hx 0 rfl; simpa [Enc.num] using this
      have hxw : IntKind.i64.wrap x = x := IntWalk.i64_in _ (by omega)
      obtain ⟨ci, hci, hcN, hcm⟩ := rem_nat N hN1 hx0
      clear hcm
      have hc0 : (0 : Int) ≤ (ci : Int) := by omega
      have hc1 : (ci : Int) < (N : Int) := by omega
      obtain ⟨z, d, hz, hd⟩ := q_ex hD.out.2 (show ci < D.length by rw [hD.out.1.len]; exact hcN)
      obtain ⟨Q, foc, shut⟩ := RowsS.focus (E := EFr) (t := 31) zs ci z hz
      have hlen := RowsS.lens zs H.out.at1 z (List.mem_of_getElem? hz)
      have hfs := q_get hD.out.2 hz hd
      have hzc := Lib.hid (fun (w' : World) (h : RdL Enc.slc w' (.slice (some ⟨gq, 0, none⟩) N N) (zs.map (·.1))) => q_cell h hz)
      have H1 := foc H.out.at1
      obtain ⟨⟨A1, n1, c1⟩, fs⟩ := z
      unfold zval at H1
      simp only at hlen hfs hzc H1
      subst hlen
      obtain ⟨x0, b0, y0⟩ := d
      have hd2 := hD.out.1.off _ (List.mem_of_getElem? hd)
      simp only [Prod.mk.injEq] at hd2
      obtain ⟨rfl, rfl⟩ := hd2
      have hst := hD.out.1.step ci x0 hd
      have hfl : fs.length ≤ 1000000 := by rw [hfs]; have := le_sumX D ci _ hd; have := hD.out.1.sum; simp [lay1]; omega
      have hnew : Hid (∀ z' : Z Fr, z'.2 = fs ++ [recF 1] → Lay1 N (j + 1) (D.set ci (x0 + 1, false, 0)) ∧ (zs.set ci z').map (·.2) = (D.set ci (x0 + 1, false, 0)).map lay1) := fun z' hz' => ⟨hst.1, q_set hD.out.2 (by rw [hz', hfs]; exact hst.2)⟩
      have hshut : Hid (∀ (w' : World) (A5 : Option Addr) (c5 : Nat), Hs w w' [Ls Enc.slc 26 (.slice (some ⟨gq, 0, none⟩) N N) ((zs.map (·.1)).set ci (A5, fs.length + 1, c5)), Ls EFr 31 (.slice A5 (fs.length + 1) c5) (fs ++ [recF 1]), Q, Old w] → Hs w w' [Ls Enc.slc 26 (.slice (some ⟨gq, 0, none⟩) N N) ((zs.set ci ((A5, fs.length + 1, c5), fs ++ [recF 1])).map (·.1)), RowsS EFr 31 (zs.set ci ((A5, fs.length + 1, c5), fs ++ [recF 1])), Old w]) := fun w' A5 c5 h => by
        rw [List.map_set]
        exact (shut ((A5, fs.length + 1, c5), fs ++ [recF 1]) h.at2.at2).at1
      clear hst hfs hrd H hd hx foc shut
      replace hz := Lib.hid hz
      generalize hw9 : wr = w9 at *
      clear hw9
      go_wp2_with fail
      refine wp_region_left (S := fun w' : World => w'.cell? ⟨gq, ci, none⟩ = some (.slice A1 fs.length c1)) 10 mixed ?_
      have hS : (fun w' : World => w'.cell? ⟨gq, ci, none⟩ = some (.slice A1 fs.length c1)) w9.drew := by exact hzc.out _ H1.drew.at2.ls_rd
      refine Left.pure (i := 0) (v := ?v11_0) rfl (by kernel_rfl) (fun _ _ _ h => h) (Or.inr hS) (Or.inl ⟨by rfl, fun w _ => ?hy11_0⟩) ?rest11_0
      case hy11_0 => (go_simp; try with_reducible rfl)
      try simp only [Act.put, List.setIfInBounds_toArray, List.set_cons_zero, List.set_cons_succ]
      refine Left.pure (i := 1) (v := ?v11_1) rfl (by kernel_rfl) (fun _ _ _ h => h) (Or.inr hS) (Or.inl ⟨by rfl, fun w _ => ?hy11_1⟩) ?rest11_1
      case hy11_1 => (go_simp; try with_reducible rfl)
      try simp only [Act.put, List.setIfInBounds_toArray, List.set_cons_zero, List.set_cons_succ]
      refine Left.pure (i := 2) (v := ?v11_2) rfl (by kernel_rfl) (fun _ _ _ h => h) (Or.inr hS) (Or.inl ⟨by rfl, fun w _ => ?hy11_2⟩) ?rest11_2
      case hy11_2 => (go_simp; try with_reducible rfl)
      try simp only [Act.put, List.setIfInBounds_toArray, List.set_cons_zero, List.set_cons_succ]
      refine Left.pure (i := 3) (v := ?v11_3) rfl (by kernel_rfl) (fun _ _ _ h => h) (Or.inr hS) (Or.inl ⟨by rfl, fun w _ => ?hy11_3⟩) ?rest11_3
      case hy11_3 => (go_simp; try with_reducible rfl)
      try simp only [Act.put, List.setIfInBounds_toArray, List.set_cons_zero, List.set_cons_succ]
      refine Left.pure (i := 4) (v := ?v11_4) rfl (by kernel_rfl) (fun _ _ _ h => h) (Or.inr hS) (Or.inl ⟨by rfl, fun w _ => ?hy11_4⟩) ?rest11_4
      case hy11_4 => (go_simp; try with_reducible rfl)
      try simp only [Act.put, List.setIfInBounds_toArray, List.set_cons_zero, List.set_cons_succ]
      refine Left.take (i := 5) (v := ?v11_5) rfl (by kernel_rfl) (fun _ _ _ h => h) hS (Or.inl ⟨by rfl, fun w hSw => ?hy11_5⟩) ?rest11_5
      case hy11_5 => ((try dsimp only at hSw); go_simp; try with_reducible rfl)
      try simp only [Act.put, List.setIfInBounds_toArray, List.set_cons_zero, List.set_cons_succ]
      refine Left.run (i := 6) rfl (by kernel_rfl) (fun K hK => ?_)
      go_simp
      go_at_call 10
      refine (rec10 1 _ w _ H1.drew).mono ?_
      rintro e w2 ⟨rfl, H2⟩
      simp only [frv, recF, barF]
      go_simp
      replace hS : (fun w' : World => w'.cell? ⟨gq, ci, none⟩ = some (.slice A1 fs.length c1)) w2 := by exact hzc.out _ H2.at2.ls_rd
      refine hK.out _ _ (Or.inr hS) ?_
      clear hK K
      try simp only [Act.put, List.setIfInBounds_toArray, List.set_cons_zero, List.set_cons_succ]
      refine Left.run (i := 7) rfl (by kernel_rfl) (fun K hK => ?_)
      have H3 := H2.alloc (.cells #[.int .i64 1, .int .i64 0, .int .i64 0, .int .i64 1, .int .i64 0, .int .u64 0, .bool false] 31)
      go_simp
      replace hS : (fun w' : World => w'.cell? ⟨gq, ci, none⟩ = some (.slice A1 fs.length c1)) (w2.alloc (.cells #[.int .i64 1, .int .i64 0, .int .i64 0, .int .i64 1, .int .i64 0, .int .u64 0, .bool false] 31)) := by exact hzc.out _ H3.at3.ls_rd
      refine hK.out _ _ (Or.inr hS) ?_
      clear hK K
      try simp only [Act.put, List.setIfInBounds_toArray, List.set_cons_zero, List.set_cons_succ]
      refine Left.run (i := 8) rfl (by kernel_rfl) (fun K hK => ?_)
      refine step_append_box (E := EFr) (v := .slice A1 fs.length c1) (by rfl) (.tmp 61) (.tmp 63) 26 (by rfl) 31 _ 7 56 Try.underlying26 infoF rfl (by decide) (by decide) rfl (by rfl) (by rfl) (H2.alloc_ _) (recF 1) (by exact RdL.boxAt _ (by simp)) (by omega) ?_
      intro A5 c5 w5 H4
      replace hS : (fun w' : World => w'.cell? ⟨gq, ci, none⟩ = some (.slice A1 fs.length c1)) w5 := by exact hzc.out _ H4.at2.ls_rd
      refine hK.out _ _ (Or.inr hS) ?_
      clear hK K
      try simp only [Act.put, List.setIfInBounds_toArray, List.set_cons_zero, List.set_cons_succ]
      refine Left.pure (i := 9) (v := ?v11_9) rfl (by kernel_rfl) (fun _ _ _ h => h) (Or.inr hS) (Or.inl ⟨by rfl, fun w _ => ?hy11_9⟩) ?rest11_9
      case hy11_9 => (go_simp; try with_reducible rfl)
      try simp only [Act.put, List.setIfInBounds_toArray, List.set_cons_zero, List.set_cons_succ]
      refine Left.run (i := 10) rfl (by kernel_rfl) (fun K hK => ?_)
      have f1 := H4.at2.ls_frozen ci
      have d1 := hzc.out _ H4.at2.ls_rd
      go_simp
      refine hK.out _ _ (Or.inl (by kernel_rfl)) ?_
      clear hK K
      try simp only [Act.put, List.setIfInBounds_toArray, List.set_cons_zero, List.set_cons_succ]
      refine Left.done (by kernel_rfl) ?_ _

      clear f1 d1 s0
      go_wp2_with fail
      go_roundg (na - (j + 1))
      case measure => have := hk.out; omega
      case rel => exact ⟨j + 1, _, _, by have := hk.out; omega, by go_num, hnew.out _ rfl, hshut.out _ _ _ (H4.at2.ls_set0 rfl ci hcN (A5, fs.length + 1, c5) _ rfl)⟩
    · have hj1 : decide ((j : Int) < (na : Int)) = false := by rw [decide_eq_false_iff_not]; omega
      have hj2 : decide (j < na) = false := by rw [decide_eq_false_iff_not]; omega
      have hjn : j = na := by have := hk.out; omega
      have hD2 : Hid (Lay2 N na 0 D ∧ zs.map (·.2) = D.map lay2) := by
        have h1 := hD.out.1.lay2
        rw [hjn] at h1
        exact ⟨h1.1, hD.out.2.trans h1.2⟩
      clear hj hjn hD hk
      go_wp2_with fail
      clear hj1 hj2
      go_loopg [12] N (fun k iv wr => ∃ (j : Nat) (D : List Chn) (zs : List (Z Fr)), k + j = N ∧ iv = .int .i64 j ∧ Hid (Lay2 N na j D ∧ zs.map (·.2) = D.map lay2) ∧ Hid (Hs w wr [Ls Enc.slc 26 (.slice (some ⟨gq, 0, none⟩) N N) (zs.map (·.1)), RowsS EFr 31 zs, Old w]))
      case atStart => exact ⟨0, D, zs, rfl, rfl, hD2, H⟩
      case round =>
        clear H hD2 D zs
        obtain ⟨ci, D, zs, hk, rfl, hD, H⟩ := hrel
        replace hk := Lib.hid hk
        rcases Nat.lt_or_ge ci N with hcN | hcN
        · have hc0 : (0 : Int) ≤ (ci : Int) := by omega
          have hc1 : (ci : Int) < (N : Int) := by omega
          have hw6 : IntKind.i64.wrap ((ci : Int) + 1) = ((ci + 1 : Nat) : Int) := by rw [IntWalk.i64_in _ (by omega)]; omega
          obtain ⟨z, d, hz, hd⟩ := q_ex hD.out.2 (show ci < D.length by rw [hD.out.1.len]; exact hcN)
          obtain ⟨Q, foc, shut⟩ := RowsS.focus (E := EFr) (t := 31) zs ci z hz
          have hlen := RowsS.lens zs H.out.at1 z (List.mem_of_getElem? hz)
          have hfs := q_get hD.out.2 hz hd
          have hzc := Lib.hid (fun (w' : World) (h : RdL Enc.slc w' (.slice (some ⟨gq, 0, none⟩) N N) (zs.map (·.1))) => q_cell h hz)
          have H1 := foc H.out.at1
          obtain ⟨⟨A1, n1, c1⟩, fs⟩ := z
          unfold zval at H1
          simp only at hlen hfs hzc H1
          subst hlen
          have hst := hD.out.1.step d hd
          have hfl : fs.length ≤ 1000000 := by rw [hfs]; have := le_sumX D ci _ hd; have := hD.out.1.sum; unfold lay2; split <;> simp <;> omega
          have hnew : Hid (∀ z' : Z Fr, z'.2 = fs ++ [barF 9 false] → Lay2 N na (ci + 1) (D.set ci (d.1, true, 0)) ∧ (zs.set ci z').map (·.2) = (D.set ci (d.1, true, 0)).map lay2) := fun z' hz' => ⟨hst.1, q_set hD.out.2 (by rw [hz', hfs]; exact hst.2)⟩
          have hshut : Hid (∀ (w' : World) (A5 : Option Addr) (c5 : Nat), Hs w w' [Ls Enc.slc 26 (.slice (some ⟨gq, 0, none⟩) N N) ((zs.map (·.1)).set ci (A5, fs.length + 1, c5)), Ls EFr 31 (.slice A5 (fs.length + 1) c5) (fs ++ [barF 9 false]), Q, Old w] → Hs w w' [Ls Enc.slc 26 (.slice (some ⟨gq, 0, none⟩) N N) ((zs.set ci ((A5, fs.length + 1, c5), fs ++ [barF 9 false])).map (·.1)), RowsS EFr 31 (zs.set ci ((A5, fs.length + 1, c5), fs ++ [barF 9 false])), Old w]) := fun w' A5 c5 h => by
            rw [List.map_set]
            exact (shut ((A5, fs.length + 1, c5), fs ++ [barF 9 false]) h.at2.at2).at1
          clear hst hfs H hd foc shut
          replace hz := Lib.hid hz
          generalize hw9 : wr = w9 at *
          clear hw9
          go_wp2_with fail
          refine wp_region_left (S := fun w' : World => w'.cell? ⟨gq, ci, none⟩ = some (.slice A1 fs.length c1)) 10 mixed ?_
          have hS : (fun w' : World => w'.cell? ⟨gq, ci, none⟩ = some (.slice A1 fs.length c1)) w9.drew := by exact hzc.out _ H1.drew.at2.ls_rd
          refine Left.pure (i := 0) (v := ?v15_0) rfl (by kernel_rfl) (fun _ _ _ h => h) (Or.inr hS) (Or.inl ⟨by rfl, fun w _ => ?hy15_0⟩) ?rest15_0
          case hy15_0 => (go_simp; try with_reducible rfl)
          try simp only [Act.put, List.setIfInBounds_toArray, List.set_cons_zero, List.set_cons_succ]
          refine Left.pure (i := 1) (v := ?v15_1) rfl (by kernel_rfl) (fun _ _ _ h => h) (Or.inr hS) (Or.inl ⟨by rfl, fun w _ => ?hy15_1⟩) ?rest15_1
          case hy15_1 => (go_simp; try with_reducible rfl)
          try simp only [Act.put, List.setIfInBounds_toArray, List.set_cons_zero, List.set_cons_succ]
          refine Left.pure (i := 2) (v := ?v15_2) rfl (by kernel_rfl) (fun _ _ _ h => h) (Or.inr hS) (Or.inl ⟨by rfl, fun w _ => ?hy15_2⟩) ?rest15_2
          case hy15_2 => (go_simp; try with_reducible rfl)
          try simp only [Act.put, List.setIfInBounds_toArray, List.set_cons_zero, List.set_cons_succ]
          refine Left.pure (i := 3) (v := ?v15_3) rfl (by kernel_rfl) (fun _ _ _ h => h) (Or.inr hS) (Or.inl ⟨by rfl, fun w _ => ?hy15_3⟩) ?rest15_3
          case hy15_3 => (go_simp; try with_reducible rfl)
          try simp only [Act.put, List.setIfInBounds_toArray, List.set_cons_zero, List.set_cons_succ]
          refine Left.pure (i := 4) (v := ?v15_4) rfl (by kernel_rfl) (fun _ _ _ h => h) (Or.inr hS) (Or.inl ⟨by rfl, fun w _ => ?hy15_4⟩) ?rest15_4
          case hy15_4 => (go_simp; try with_reducible rfl)
          try simp only [Act.put, List.setIfInBounds_toArray, List.set_cons_zero, List.set_cons_succ]
          refine Left.take (i := 5) (v := ?v15_5) rfl (by kernel_rfl) (fun _ _ _ h => h) hS (Or.inl ⟨by rfl, fun w hSw => ?hy15_5⟩) ?rest15_5
          case hy15_5 => ((try dsimp only at hSw); go_simp; try with_reducible rfl)
          try simp only [Act.put, List.setIfInBounds_toArray, List.set_cons_zero, List.set_cons_succ]
          refine Left.run (i := 6) rfl (by kernel_rfl) (fun K hK => ?_)
          go_simp
          go_at_call 11
          refine (bar11 9 false _ w _ H1.drew).mono ?_
          rintro e w2 ⟨rfl, H2⟩
          simp only [frv, recF, barF]
          go_simp
          replace hS : (fun w' : World => w'.cell? ⟨gq, ci, none⟩ = some (.slice A1 fs.length c1)) w2 := by exact hzc.out _ H2.at2.ls_rd
          refine hK.out _ _ (Or.inr hS) ?_
          clear hK K
          try simp only [Act.put, List.setIfInBounds_toArray, List.set_cons_zero, List.set_cons_succ]
          refine Left.run (i := 7) rfl (by kernel_rfl) (fun K hK => ?_)
          have H3 := H2.alloc (.cells #[.int .i64 3, .int .i64 0, .int .i64 0, .int .i64 0, .int .i64 0, .int .u64 9, .bool false] 31)
          go_simp
          replace hS : (fun w' : World => w'.cell? ⟨gq, ci, none⟩ = some (.slice A1 fs.length c1)) (w2.alloc (.cells #[.int .i64 3, .int .i64 0, .int .i64 0, .int .i64 0, .int .i64 0, .int .u64 9, .bool false] 31)) := by exact hzc.out _ H3.at3.ls_rd
          refine hK.out _ _ (Or.inr hS) ?_
          clear hK K
          try simp only [Act.put, List.setIfInBounds_toArray, List.set_cons_zero, List.set_cons_succ]
          refine Left.run (i := 8) rfl (by kernel_rfl) (fun K hK => ?_)
          refine step_append_box (E := EFr) (v := .slice A1 fs.length c1) (by rfl) (.tmp 76) (.tmp 78) 26 (by rfl) 31 _ 7 56 Try.underlying26 infoF rfl (by decide) (by decide) rfl (by rfl) (by rfl) (H2.alloc_ _) (barF 9 false) (by exact RdL.boxAt _ (by simp)) (by omega) ?_
          intro A5 c5 w5 H4
          replace hS : (fun w' : World => w'.cell? ⟨gq, ci, none⟩ = some (.slice A1 fs.length c1)) w5 := by exact hzc.out _ H4.at2.ls_rd
          refine hK.out _ _ (Or.inr hS) ?_
          clear hK K
          try simp only [Act.put, List.setIfInBounds_toArray, List.set_cons_zero, List.set_cons_succ]
          refine Left.pure (i := 9) (v := ?v15_9) rfl (by kernel_rfl) (fun _ _ _ h => h) (Or.inr hS) (Or.inl ⟨by rfl, fun w _ => ?hy15_9⟩) ?rest15_9
          case hy15_9 => (go_simp; try with_reducible rfl)
          try simp only [Act.put, List.setIfInBounds_toArray, List.set_cons_zero, List.set_cons_succ]
          refine Left.run (i := 10) rfl (by kernel_rfl) (fun K hK => ?_)
          have f1 := H4.at2.ls_frozen ci
          have d1 := hzc.out _ H4.at2.ls_rd
          go_simp
          refine hK.out _ _ (Or.inl (by kernel_rfl)) ?_
          clear hK K
          try simp only [Act.put, List.setIfInBounds_toArray, List.set_cons_zero, List.set_cons_succ]
          refine Left.done (by kernel_rfl) ?_ _

          clear f1 d1
          go_wp2_with fail
          go_roundg (N - (ci + 1))
          case measure => have := hk.out; omega
          case rel => exact ⟨ci + 1, _, _, by have := hk.out; omega, by go_num, hnew.out _ rfl, hshut.out _ _ _ (H4.at2.ls_set0 rfl ci hcN (A5, fs.length + 1, c5) _ rfl)⟩
        · have hj1 : decide ((ci : Int) < (N : Int)) = false := by rw [decide_eq_false_iff_not]; omega
          have hj2 : decide (ci < N) = false := by rw [decide_eq_false_iff_not]; omega
          have hjn : ci = N := by have := hk.out; omega
          have hD2 : Hid (Lay3 N na 0 (D.map unflag) ∧ zs.map (·.2) = (D.map unflag).map layd) := by
            have h1 := hD.out.1
            rw [hjn] at h1
            exact ⟨h1.lay3.1, hD.out.2.trans h1.lay3.2⟩
          clear hcN hjn hD hk
          go_wp2_with fail
          clear hj1 hj2
          go_loopg [13] nb (fun k iv wr => ∃ (j : Nat) (D : List Chn) (zs : List (Z Fr)), k + j = nb ∧ iv = .int .i64 j ∧ Hid (Lay3 N na j D ∧ zs.map (·.2) = D.map layd) ∧ Hid (Hs w wr [Ls Enc.slc 26 (.slice (some ⟨gq, 0, none⟩) N N) (zs.map (·.1)), RowsS EFr 31 zs, Old w]))
          case atStart => exact ⟨0, _, zs, rfl, rfl, hD2, H⟩
          case round =>
            clear H hD2 D zs
            obtain ⟨j, D, zs, hk, rfl, hD, H⟩ := hrel
            replace hk := Lib.hid hk
            rcases Nat.lt_or_ge j nb with hj | hj
            · have hj0 : (0 : Int) ≤ (j : Int) := by omega
              have hj1 : (j : Int) < (nb : Int) := by omega
              have hw6 : IntKind.i64.wrap ((j : Int) + 1) = ((j + 1 : Nat) : Int) := by rw [IntWalk.i64_in _ (by omega)]; omega
              obtain ⟨x, hx⟩ : ∃ x, ys[j]? = some x := ⟨_, List.getElem?_eq_getElem (by have := hyl.out; omega)⟩
              obtain ⟨hx0, hx1⟩ := u8_in (hokb x (List.mem_of_getElem? hx))
              have hrd := hrb.out.old H.out.at2
              obtain ⟨ga, oa, rfl⟩ := hrd.some_ (by have := hyl.out; omega)
              have s0 : wr.cell? ⟨ga, oa + j, none⟩ = some (.int .u8 x) := by have := hrd.cell hx 0 rfl; simpa [Enc.num] using this
              have hxw : IntKind.i64.wrap x = x := IntWalk.i64_in _ (by omega)
              obtain ⟨ci, hci, hcN, hcm⟩ := rem_nat N hN1 hx0
              clear hcm
              have hc0 : (0 : Int) ≤ (ci : Int) := by omega
              have hc1 : (ci : Int) < (N : Int) := by omega
              obtain ⟨z, d, hz, hd⟩ := q_ex hD.out.2 (show ci < D.length by rw [hD.out.1.len]; exact hcN)
              obtain ⟨Q, foc, shut⟩ := RowsS.focus (E := EFr) (t := 31) zs ci z hz
              have hlen := RowsS.lens zs H.out.at1 z (List.mem_of_getElem? hz)
              have hfs := q_get hD.out.2 hz hd
              have hzc := Lib.hid (fun (w' : World) (h : RdL Enc.slc w' (.slice (some ⟨gq, 0, none⟩) N N) (zs.map (·.1))) => q_cell h hz)
              have H1 := foc H.out.at1
              obtain ⟨⟨A1, n1, c1⟩, fs⟩ := z
              unfold zval at H1
              simp only at hlen hfs hzc H1
              subst hlen
              obtain ⟨x0, b0, y0⟩ := d
              have hd2 := hD.out.1.off _ (List.mem_of_getElem? hd)
              simp only at hd2
              subst hd2
              have hst := hD.out.1.step ci x0 y0 hd
              have hfl : fs.length ≤ 1000000 := by
                rw [hfs]
                have h1 := le_sumX D ci _ hd
                have h2 := hD.out.1.sumx
                have h3 := le_sumY D ci _ hd
                have h4 := hD.out.1.sum
                have h5 := layd_len (x0, false, y0)
                simp only at h1 h3 h5
                omega
              have hnew : Hid (∀ z' : Z Fr, z'.2 = fs ++ [recF 2] → Lay3 N na (j + 1) (D.set ci (x0, false, y0 + 1)) ∧ (zs.set ci z').map (·.2) = (D.set ci (x0, false, y0 + 1)).map layd) := fun z' hz' => ⟨hst.1, q_set hD.out.2 (by rw [hz', hfs]; exact hst.2)⟩
              have hshut : Hid (∀ (w' : World) (A5 : Option Addr) (c5 : Nat), Hs w w' [Ls Enc.slc 26 (.slice (some ⟨gq, 0, none⟩) N N) ((zs.map (·.1)).set ci (A5, fs.length + 1, c5)), Ls EFr 31 (.slice A5 (fs.length + 1) c5) (fs ++ [recF 2]), Q, Old w] → Hs w w' [Ls Enc.slc 26 (.slice (some ⟨gq, 0, none⟩) N N) ((zs.set ci ((A5, fs.length + 1, c5), fs ++ [recF 2])).map (·.1)), RowsS EFr 31 (zs.set ci ((A5, fs.length + 1, c5), fs ++ [recF 2])), Old w]) := fun w' A5 c5 h => by
                rw [List.map_set]
                exact (shut ((A5, fs.length + 1, c5), fs ++ [recF 2]) h.at2.at2).at1
              clear hst hfs hrd H hd hx foc shut
              replace hz := Lib.hid hz
              generalize hw9 : wr = w9 at *
              clear hw9
              go_wp2_with fail
              refine wp_region_left (S := fun w' : World => w'.cell? ⟨gq, ci, none⟩ = some (.slice A1 fs.length c1)) 10 mixed ?_
              have hS : (fun w' : World => w'.cell? ⟨gq, ci, none⟩ = some (.slice A1 fs.length c1)) w9.drew := by exact hzc.out _ H1.drew.at2.ls_rd
              refine Left.pure (i := 0) (v := ?v20_0) rfl (by kernel_rfl) (fun _ _ _ h => h) (Or.inr hS) (Or.inl ⟨by rfl, fun w _ => ?hy20_0⟩) ?rest20_0
              case hy20_0 => (go_simp; try with_reducible rfl)
              try simp only [Act.put, List.setIfInBounds_toArray, List.set_cons_zero, List.set_cons_succ]
              refine Left.pure (i := 1) (v := ?v20_1) rfl (by kernel_rfl) (fun _ _ _ h => h) (Or.inr hS) (Or.inl ⟨by rfl, fun w _ => ?hy20_1⟩) ?rest20_1
              case hy20_1 => (go_simp; try with_reducible rfl)
              try simp only [Act.put, List.setIfInBounds_toArray, List.set_cons_zero, List.set_cons_succ]
              refine Left.pure (i := 2) (v := ?v20_2) rfl (by kernel_rfl) (fun _ _ _ h => h) (Or.inr hS) (Or.inl ⟨by rfl, fun w _ => ?hy20_2⟩) ?rest20_2
              case hy20_2 => (go_simp; try with_reducible rfl)
              try simp only [Act.put, List.setIfInBounds_toArray, List.set_cons_zero, List.set_cons_succ]
              refine Left.pure (i := 3) (v := ?v20_3) rfl (by kernel_rfl) (fun _ _ _ h => h) (Or.inr hS) (Or.inl ⟨by rfl, fun w _ => ?hy20_3⟩) ?rest20_3
              case hy20_3 => (go_simp; try with_reducible rfl)
              try simp only [Act.put, List.setIfInBounds_toArray, List.set_cons_zero, List.set_cons_succ]
              refine Left.pure (i := 4) (v := ?v20_4) rfl (by kernel_rfl) (fun _ _ _ h => h) (Or.inr hS) (Or.inl ⟨by rfl, fun w _ => ?hy20_4⟩) ?rest20_4
              case hy20_4 => (go_simp; try with_reducible rfl)
              try simp only [Act.put, List.setIfInBounds_toArray, List.set_cons_zero, List.set_cons_succ]
              refine Left.take (i := 5) (v := ?v20_5) rfl (by kernel_rfl) (fun _ _ _ h => h) hS (Or.inl ⟨by rfl, fun w hSw => ?hy20_5⟩) ?rest20_5
              case hy20_5 => ((try dsimp only at hSw); go_simp; try with_reducible rfl)
              try simp only [Act.put, List.setIfInBounds_toArray, List.set_cons_zero, List.set_cons_succ]
              refine Left.run (i := 6) rfl (by kernel_rfl) (fun K hK => ?_)
              go_simp
              go_at_call 10
              refine (rec10 2 _ w _ H1.drew).mono ?_
              rintro e w2 ⟨rfl, H2⟩
              simp only [frv, recF, barF]
              go_simp
              replace hS : (fun w' : World => w'.cell? ⟨gq, ci, none⟩ = some (.slice A1 fs.length c1)) w2 := by exact hzc.out _ H2.at2.ls_rd
              refine hK.out _ _ (Or.inr hS) ?_
              clear hK K
              try simp only [Act.put, List.setIfInBounds_toArray, List.set_cons_zero, List.set_cons_succ]
              refine Left.run (i := 7) rfl (by kernel_rfl) (fun K hK => ?_)
              have H3 := H2.alloc (.cells #[.int .i64 1, .int .i64 0, .int .i64 0, .int .i64 2, .int .i64 0, .int .u64 0, .bool false] 31)
              go_simp
              replace hS : (fun w' : World => w'.cell? ⟨gq, ci, none⟩ = some (.slice A1 fs.length c1)) (w2.alloc (.cells #[.int .i64 1, .int .i64 0, .int .i64 0, .int .i64 2, .int .i64 0, .int .u64 0, .bool false] 31)) := by exact hzc.out _ H3.at3.ls_rd
              refine hK.out _ _ (Or.inr hS) ?_
              clear hK K
              try simp only [Act.put, List.setIfInBounds_toArray, List.set_cons_zero, List.set_cons_succ]
              refine Left.run (i := 8) rfl (by kernel_rfl) (fun K hK => ?_)
              refine step_append_box (E := EFr) (v := .slice A1 fs.length c1) (by rfl) (.tmp 99) (.tmp 101) 26 (by rfl) 31 _ 7 56 Try.underlying26 infoF rfl (by decide) (by decide) rfl (by rfl) (by rfl) (H2.alloc_ _) (recF 2) (by exact RdL.boxAt _ (by simp)) (by omega) ?_
              intro A5 c5 w5 H4
              replace hS : (fun w' : World => w'.cell? ⟨gq, ci, none⟩ = some (.slice A1 fs.length c1)) w5 := by exact hzc.out _ H4.at2.ls_rd
              refine hK.out _ _ (Or.inr hS) ?_
              clear hK K
              try simp only [Act.put, List.setIfInBounds_toArray, List.set_cons_zero, List.set_cons_succ]
              refine Left.pure (i := 9) (v := ?v20_9) rfl (by kernel_rfl) (fun _ _ _ h => h) (Or.inr hS) (Or.inl ⟨by rfl, fun w _ => ?hy20_9⟩) ?rest20_9
              case hy20_9 => (go_simp; try with_reducible rfl)
              try simp only [Act.put, List.setIfInBounds_toArray, List.set_cons_zero, List.set_cons_succ]
              refine Left.run (i := 10) rfl (by kernel_rfl) (fun K hK => ?_)
              have f1 := H4.at2.ls_frozen ci
              have d1 := hzc.out _ H4.at2.ls_rd
              go_simp
              refine hK.out _ _ (Or.inl (by kernel_rfl)) ?_
              clear hK K
              try simp only [Act.put, List.setIfInBounds_toArray, List.set_cons_zero, List.set_cons_succ]
              refine Left.done (by kernel_rfl) ?_ _

              clear f1 d1 s0
              go_wp2_with fail
              go_roundg (nb - (j + 1))
              case measure => have := hk.out; omega
              case rel => exact ⟨j + 1, _, _, by have := hk.out; omega, by go_num, hnew.out _ rfl, hshut.out _ _ _ (H4.at2.ls_set0 rfl ci hcN (A5, fs.length + 1, c5) _ rfl)⟩
            · have hj1 : decide ((j : Int) < (nb : Int)) = false := by rw [decide_eq_false_iff_not]; omega
              have hj2 : decide (j < nb) = false := by rw [decide_eq_false_iff_not]; omega
              have hjn : j = nb := by have := hk.out; omega
              have hD2 := hD.out.1
              rw [hjn] at hD2
              obtain ⟨hA, hG, hL, hK⟩ := hD2.al hN1
              have hD3 : Hid (Al N na nb 0 D ∧ Pr no N (na + nb + N) 0 D ∧ leftOf D ≤ na + nb + N ∧ zs.map (·.2) = D.map layd) := ⟨hA, .inl (Nat.zero_le _), by omega, hD.out.2⟩
              replace hG := Lib.hid hG
              replace hL := Lib.hid hL
              replace hK := Lib.hid hK
              clear hj hjn hD hk hD2 hA
              go_wp2_with fail
              clear hj1 hj2
              refine (new12 N _ w _ H.out).mono ?_
              rintro e w1 ⟨p, rfl, H1⟩
              have hnew : Gt.new (N : Int) = Gt.fresh N := by unfold Gt.new; rw [show (min (max (N : Int) 1) 64).toNat = N from by omega]
              rw [hnew, ← hG.out] at H1
              clear hnew H hG
              replace H1 := Lib.hid H1
              go_wp2_with fail
              go_loopg [16, 17, 18, 19] 1001 (fun m kv tv lv iv wr => ∃ (i told : Nat) (D : List Chn) (zs : List (Z Fr)), m + i = 1001 ∧ kv = .bool (kept D) ∧ tv = .int .i64 told ∧ lv = .int .i64 (leftOf D) ∧ iv = .int .i64 i ∧ Hid (Al N na nb told D ∧ Pr no N (na + nb + N) i D ∧ leftOf D ≤ na + nb + N ∧ zs.map (·.2) = D.map layd) ∧
                Hid (Hs w wr [GateP p (gateOf D), Ls Enc.slc 26 (.slice (some ⟨gq, 0, none⟩) N N) (zs.map (·.1)), RowsS EFr 31 zs, Old w]))
              case atStart => exact ⟨0, 0, D, zs, rfl, by rw [hK.out], rfl, by rw [hL.out]; go_num, rfl, hD3, H1⟩
              case round =>
                clear H1 hD3 hK hL D zs
                obtain ⟨i, told, D, zs, hk, rfl, rfl, rfl, rfl, hD, H⟩ := hrel
                replace hk := Lib.hid hk
                rcases Nat.eq_zero_or_pos (leftOf D) with hl | hl
                · obtain ⟨hkp, htd⟩ := al_end _ _ _ _ _ hD.out.1 hl
                  rw [hkp, htd, hl]
                  clear hkp htd hl
                  go_wp2_with fail
                  go_ret
                  exact ⟨rfl, H.out.tail.tail.tail.under_old⟩
                · have hi := hD.out.2.1.small hD.out.1 hl h5n hN8 (show na + nb + N ≤ 66 by omega)
                  have htd : told ≤ na + nb := by have := hD.out.1.sum; omega
                  obtain ⟨lf, hlf⟩ : ∃ lf, leftOf D = lf := ⟨_, rfl⟩
                  obtain ⟨kb, hkb⟩ : ∃ kb, kept D = kb := ⟨_, rfl⟩
                  rw [hlf] at hl ⊢
                  rw [hkb]
                  have hl0 : (0 : Int) < (lf : Int) := by omega
                  have hwi : IntKind.i64.wrap ((i : Int) + 1) = ((i + 1 : Nat) : Int) := by rw [IntWalk.i64_in _ (by omega)]; omega
                  have hlfm : lf ≤ na + nb + N := by rw [← hlf]; exact hD.out.2.2.1
                  have hwf : IntKind.i64.wrap ((lf : Int) - 1) = ((lf - 1 : Nat) : Int) := by rw [IntWalk.i64_in _ (by omega)]; omega
                  have hwt : IntKind.i64.wrap ((told : Int) + 1) = ((told + 1 : Nat) : Int) := by rw [IntWalk.i64_in _ (by omega)]; omega
                  have hi1 : decide ((1000 : Int) < (i : Int)) = false := by rw [decide_eq_false_iff_not]; omega
                  have hi2 : decide (1000 < i) = false := by rw [decide_eq_false_iff_not]; omega
                  replace hlf := Lib.hid hlf
                  replace hkb := Lib.hid hkb
                  obtain ⟨c0, hc0, hc0N, hc0m⟩ := rem_nat N hN1 (Int.natCast_nonneg i)
                  rw [Int.toNat_natCast] at hc0m
                  replace hc0m := Lib.hid hc0m
                  rcases Nat.lt_or_ge i no with hj | hj
                  · have hj0 : (0 : Int) ≤ (i : Int) := by omega
                    have hj1 : (i : Int) < (no : Int) := by omega
                    obtain ⟨x, hx⟩ : ∃ x, os[i]? = some x := ⟨_, List.getElem?_eq_getElem (by have := hol.out; omega)⟩
                    obtain ⟨hx0, hx1⟩ := u8_in (hoko x (List.mem_of_getElem? hx))
                    have hrd := hro.out.old H.out.at3
                    obtain ⟨ga, oa, rfl⟩ := hrd.some_ (by have := hol.out; omega)
                    have s0 : wr.cell? ⟨ga, oa + i, none⟩ = some (.int .u8 x) := by have := hrd.cell hx 0 rfl; simpa [Enc.num] using this
                    have hxw : IntKind.i64.wrap x = x := IntWalk.i64_in _ (by omega)
                    obtain ⟨ci, hci, hcN, hcm⟩ := rem_nat N hN1 hx0
                    have hsk : Hid (no ≤ i → ci = i % N) := fun h => by omega
                    clear hcm hx hrd hc0m
                    have hci0 : (0 : Int) ≤ (ci : Int) := by omega
                    have hci1 : (ci : Int) < (N : Int) := by omega
                    obtain ⟨z, d, hz, hd⟩ := q_ex hD.out.2.2.2 (show ci < D.length by rw [hD.out.1.len]; exact hcN)
                    have hlen := RowsS.lens zs H.out.at2 z (List.mem_of_getElem? hz)
                    have hfs := q_get hD.out.2.2.2 hz hd
                    have zc := q_cell H.out.at1.ls_rd hz
                    cases hq : layd d with
                    | nil =>
                      have hst : Hid (Stuck D ci) := fun d' hd' => .inl (by rw [hd] at hd'; injection hd' with hd'; subst hd'; exact hq)
                      obtain ⟨⟨A1, n1, c1⟩, fs⟩ := z
                      rw [hq] at hfs
                      simp only at hfs hlen zc
                      subst hfs
                      simp only [List.length_nil] at hlen
                      subst hlen
                      clear hz hd hq
                      go_wp2_with fail
                      go_roundg (1001 - (i + 1))
                      case measure => have := hk.out; omega
                      case rel => exact ⟨i + 1, told, D, zs, by have := hk.out; omega, by rw [hkb.out], rfl, by rw [hlf.out], by go_num, ⟨hD.out.1, hD.out.2.1.skip (fun h => by rw [← hsk.out h]; exact hst.out), hD.out.2.2⟩, H⟩
                    | cons f q =>
                      cases hbk : (gateOf D).blocked (ci : Int) with
                      | true =>
                        have hst : Hid (Stuck D ci) := fun d' hd' => .inr hbk
                        obtain ⟨⟨A1, n1, c1⟩, fs⟩ := z
                        rw [hq] at hfs
                        simp only at hfs hlen zc
                        subst hfs
                        simp only [List.length_cons] at hlen
                        subst hlen
                        have hqz : (((q.length : Int) + 1) == 0) = false := by rw [beq_eq_false_iff_ne]; omega
                        clear hz hd hq
                        go_wp2_with fail
                        refine (blocked13 p _ _ w _ H.out ci).mono ?_
                        rw [hbk]
                        rintro e w5 ⟨rfl, rfl⟩
                        go_wp2_with fail
                        go_roundg (1001 - (i + 1))
                        case measure => have := hk.out; omega
                        case rel => exact ⟨i + 1, told, D, zs, by have := hk.out; omega, by rw [hkb.out], rfl, by rw [hlf.out], by go_num, ⟨hD.out.1, hD.out.2.1.skip (fun h => by rw [← hsk.out h]; exact hst.out), hD.out.2.2⟩, H⟩
                      | false =>
                        obtain ⟨d', x, ht, hq', hl', hcase⟩ := al_step N na nb told D hD.out.1 ci d hd hbk f q hq
                        obtain ⟨Q, foc, shut⟩ := RowsS.focus (E := EFr) (t := 31) zs ci z hz
                        have hok : Hid ((gateOf D).Ok N) := by have := gateOf_ok D; rw [hD.out.1.len] at this; exact this
                        have hpr : Hid (Pr no N (na + nb + N) (i + 1) (D.set ci d')) := hD.out.2.1.pop hD.out.1 hN1 hl' hD.out.2.2.1
                        have hlf' : Hid (leftOf (D.set ci d') = lf - 1) := by show _ = _; have := hlf.out; omega
                        have hlb : Hid (leftOf (D.set ci d') ≤ na + nb + N) := by show _ ≤ _; have := hD.out.2.2.1; omega
                        have H1 := foc H.out.at2
                        obtain ⟨⟨A1, n1, c1⟩, fs⟩ := z
                        rw [hq] at hfs
                        unfold zval at H1
                        simp only at hfs hlen zc H1
                        subst hfs
                        simp only [List.length_cons] at hlen
                        subst hlen
                        have hqz : (((q.length : Int) + 1) == 0) = false := by rw [beq_eq_false_iff_ne]; omega
                        obtain ⟨g1, o1, rfl⟩ := H1.ls_rd.some_ (by simp)
                        have hcap1 := H1.ls_rd.caps.2
                        obtain ⟨e0, e1, e2, e3, e4, e5, e6⟩ := front_cells H1.ls_rd
                        have hqp : (0 : Int) < ((q.length : Int) + 1) := by omega
                        obtain ⟨A2, hA2, hcut⟩ := cut_tail Try.prog 26 31 7 Try.underlying26 (by kernel_rfl) (some ⟨g1, o1, none⟩) q.length c1
                        have hzs : Hid ((zs.set ci ((A2, q.length, c1 - 1), q)).map (·.2) = (D.set ci d').map layd) := q_set hD.out.2.2.2 hq'.symm
                        have hzc : Hid (∀ w' : World, RdL Enc.slc w' (.slice (some ⟨gq, 0, none⟩) N N) (zs.map (·.1)) → w'.cell? ⟨gq, ci, none⟩ = some (.slice (some ⟨g1, o1, none⟩) (q.length + 1) c1)) := fun w' h => q_cell h hz
                        have hfin : Hid (∀ (w' : World) (bq : Nat) (o : Obj), Hs w w' [Ls Enc.slc 26 (.slice (some ⟨gq, 0, none⟩) N N) ((zs.map (·.1)).set ci (A2, q.length, c1 - 1)), Ls EFr 31 (.slice A2 q.length (c1 - 1)) q, Q, Blk bq o, GateP p (gateOf (D.set ci d')), Old w] → Hs w w' [GateP p (gateOf (D.set ci d')), Ls Enc.slc 26 (.slice (some ⟨gq, 0, none⟩) N N) ((zs.set ci ((A2, q.length, c1 - 1), q)).map (·.1)), RowsS EFr 31 (zs.set ci ((A2, q.length, c1 - 1), q)), Old w]) := fun w' bq o h => by
                          rw [List.map_set]
                          exact (shut ((A2, q.length, c1 - 1), q) h.at2.at2).at2.tail.at1.at2
                        have hopen : Hid (∀ (w' : World) (bq : Nat) (o : Obj), Hs w w' [Blk bq o, GateP p (gateOf (D.set ci d')), Ls Enc.slc 26 (.slice (some ⟨gq, 0, none⟩) N N) (zs.map (·.1)), RowsS EFr 31 zs, Old w] → Hs w w' [Ls Enc.slc 26 (.slice (some ⟨gq, 0, none⟩) N N) (zs.map (·.1)), Ls EFr 31 (.slice A2 q.length (c1 - 1)) q, Q, Blk bq o, GateP p (gateOf (D.set ci d')), Old w]) := fun w' bq o h => by
                          have h1 := foc h.at3
                          exact (Hs.ls_tail h1 rfl rfl hA2).at4
                        replace ht := Lib.hid ht
                        obtain ⟨f0, ⟨f1, f2, f3⟩, f4, f5, f6⟩ := f
                        obtain ⟨x0, ⟨x1, x2, x3⟩, x4, x5, x6⟩ := x
                        simp only at e0 e1 e2 e3 e4 e5 e6 hcase
                        have hcl : (0 : Int) ≤ 0 := by decide
                        replace hcase := Lib.hid hcase
                        clear hz hd hq hq' hl' foc shut hA2 H1 hcl
                        go_wp2_with fail
                        refine (blocked13 p _ _ w _ H.out ci).mono ?_
                        rw [hbk]
                        rintro e w5 ⟨rfl, rfl⟩
                        clear hbk
                        go_wp2_with fail
                        refine (takes p (gateOf D) N ci _ _ w _ H.out hok.out (gateOf_cap D) _ _ _ ht.out).mono ?_
                        rintro e w3 ⟨rfl, H2⟩
                        clear H e0 e1 e2 e3 e4 e5 e6 zc
                        simp only [stv]
                        go_upto_region 33 with (fail)
                        have H3 := hopen.out _ _ _ (H2.alloc (.cells #[.int .i64 x0, .int .i64 x1, .int .i64 x2, .int .i64 x3, .int .i64 x4, .int .u64 x5, .int .u64 x6] 38))
                        clear H2 hopen
                        generalize World.alloc _ _ = w4 at H3 ⊢
                        generalize w3.heap.size = bq at H3 ⊢
                        have zc := hzc.out _ H3.ls_rd
                        have fz := H3.ls_frozen ci
                        have H4 := Lib.hid (H3.ls_set0 rfl ci hcN (A2, q.length, c1 - 1) (.slice A2 q.length (c1 - 1)) rfl)
                        clear H3 hzc
                        go_upto_region 34 with (fail)
                        generalize World.setCell w4 _ _ = w6 at H4 ⊢
                        clear zc fz hcut
                        have b0 : w6.cell? ⟨bq, 0, none⟩ = some (.int .i64 x0) := H4.out.at3.cellOf 0 rfl
                        have b3 : w6.cell? ⟨bq, 3, none⟩ = some (.int .i64 x3) := H4.out.at3.cellOf 3 rfl
                        have H5 : Hid _ := hfin.out _ _ _ H4.out
                        clear H4 hfin
                        rcases hcase.out with ⟨rfl, hk1, hk2, hta, hAl⟩ | ⟨rfl, hk1, hAl⟩ | ⟨rfl, hk1, hk2, hAl⟩
                        · rw [hkb.out] at hk1
                          subst hk1
                          replace hAl := Lib.hid hAl
                          have hta' : ((told : Int) != (na : Int)) = false := by rw [hta]; simp
                          replace hta := Lib.hid hta
                          replace hk2 := Lib.hid hk2
                          go_wp2_with fail
                          go_roundg (1001 - (i + 1))
                          case measure => have := hk.out; omega
                          case rel => exact ⟨i + 1, told, _, _, by have := hk.out; omega, by rw [hk2.out], rfl, by rw [hlf'.out], by go_num, ⟨hAl.out, hpr.out, hlb.out, hzs.out⟩, H5⟩
                        · rw [hkb.out] at hk1
                          replace hAl := Lib.hid hAl
                          replace hk1 := Lib.hid hk1
                          go_wp2_with fail
                          go_roundg (1001 - (i + 1))
                          case measure => have := hk.out; omega
                          case rel => exact ⟨i + 1, told, _, _, by have := hk.out; omega, by rw [hk1.out], rfl, by rw [hlf'.out], by go_num, ⟨hAl.out, hpr.out, hlb.out, hzs.out⟩, H5⟩
                        · rw [hkb.out] at hk1 hk2
                          replace hAl := Lib.hid hAl
                          replace hk2 := Lib.hid hk2
                          have hk3 : (x3 == 2) = kb := by rw [Bool.eq_iff_iff, beq_iff_eq]; exact hk1
                          clear hk1
                          go_wp2_with fail
                          go_roundg (1001 - (i + 1))
                          case measure => have := hk.out; omega
                          case rel => exact ⟨i + 1, told + 1, _, _, by have := hk.out; omega, by rw [hk2.out], by go_num, by rw [hlf'.out], by go_num, ⟨hAl.out, hpr.out, hlb.out, hzs.out⟩, H5⟩

                  · have hj1 : decide ((i : Int) < (no : Int)) = false := by rw [decide_eq_false_iff_not]; omega
                    have hj2 : decide (i < no) = false := by rw [decide_eq_false_iff_not]; omega
                    have hsk : Hid (no ≤ i → c0 = i % N) := fun _ => hc0m.out
                    clear hc0m hj
                    obtain ⟨ci, hcc⟩ : ∃ ci, ci = c0 := ⟨_, rfl⟩
                    have hcN := hc0N
                    rw [← hcc] at hsk hc0 hcN
                    clear hc0N hcc c0
                    have hci0 : (0 : Int) ≤ (ci : Int) := by omega
                    have hci1 : (ci : Int) < (N : Int) := by omega
                    obtain ⟨z, d, hz, hd⟩ := q_ex hD.out.2.2.2 (show ci < D.length by rw [hD.out.1.len]; exact hcN)
                    have hlen := RowsS.lens zs H.out.at2 z (List.mem_of_getElem? hz)
                    have hfs := q_get hD.out.2.2.2 hz hd
                    have zc := q_cell H.out.at1.ls_rd hz
                    cases hq : layd d with
                    | nil =>
                      have hst : Hid (Stuck D ci) := fun d' hd' => .inl (by rw [hd] at hd'; injection hd' with hd'; subst hd'; exact hq)
                      obtain ⟨⟨A1, n1, c1⟩, fs⟩ := z
                      rw [hq] at hfs
                      simp only at hfs hlen zc
                      subst hfs
                      simp only [List.length_nil] at hlen
                      subst hlen
                      clear hz hd hq
                      go_wp2_with fail
                      go_roundg (1001 - (i + 1))
                      case measure => have := hk.out; omega
                      case rel => exact ⟨i + 1, told, D, zs, by have := hk.out; omega, by rw [hkb.out], rfl, by rw [hlf.out], by go_num, ⟨hD.out.1, hD.out.2.1.skip (fun h => by rw [← hsk.out h]; exact hst.out), hD.out.2.2⟩, H⟩
                    | cons f q =>
                      cases hbk : (gateOf D).blocked (ci : Int) with
                      | true =>
                        have hst : Hid (Stuck D ci) := fun d' hd' => .inr hbk
                        obtain ⟨⟨A1, n1, c1⟩, fs⟩ := z
                        rw [hq] at hfs
                        simp only at hfs hlen zc
                        subst hfs
                        simp only [List.length_cons] at hlen
                        subst hlen
                        have hqz : (((q.length : Int) + 1) == 0) = false := by rw [beq_eq_false_iff_ne]; omega
                        clear hz hd hq
                        go_wp2_with fail
                        refine (blocked13 p _ _ w _ H.out ci).mono ?_
                        rw [hbk]
                        rintro e w5 ⟨rfl, rfl⟩
                        go_wp2_with fail
                        go_roundg (1001 - (i + 1))
                        case measure => have := hk.out; omega
                        case rel => exact ⟨i + 1, told, D, zs, by have := hk.out; omega, by rw [hkb.out], rfl, by rw [hlf.out], by go_num, ⟨hD.out.1, hD.out.2.1.skip (fun h => by rw [← hsk.out h]; exact hst.out), hD.out.2.2⟩, H⟩
                      | false =>
                        obtain ⟨d', x, ht, hq', hl', hcase⟩ := al_step N na nb told D hD.out.1 ci d hd hbk f q hq
                        obtain ⟨Q, foc, shut⟩ := RowsS.focus (E := EFr) (t := 31) zs ci z hz
                        have hok : Hid ((gateOf D).Ok N) := by have := gateOf_ok D; rw [hD.out.1.len] at this; exact this
                        have hpr : Hid (Pr no N (na + nb + N) (i + 1) (D.set ci d')) := hD.out.2.1.pop hD.out.1 hN1 hl' hD.out.2.2.1
                        have hlf' : Hid (leftOf (D.set ci d') = lf - 1) := by show _ = _; have := hlf.out; omega
                        have hlb : Hid (leftOf (D.set ci d') ≤ na + nb + N) := by show _ ≤ _; have := hD.out.2.2.1; omega
                        have H1 := foc H.out.at2
                        obtain ⟨⟨A1, n1, c1⟩, fs⟩ := z
                        rw [hq] at hfs
                        unfold zval at H1
                        simp only at hfs hlen zc H1
                        subst hfs
                        simp only [List.length_cons] at hlen
                        subst hlen
                        have hqz : (((q.length : Int) + 1) == 0) = false := by rw [beq_eq_false_iff_ne]; omega
                        obtain ⟨g1, o1, rfl⟩ := H1.ls_rd.some_ (by simp)
                        have hcap1 := H1.ls_rd.caps.2
                        obtain ⟨e0, e1, e2, e3, e4, e5, e6⟩ := front_cells H1.ls_rd
                        have hqp : (0 : Int) < ((q.length : Int) + 1) := by omega
                        obtain ⟨A2, hA2, hcut⟩ := cut_tail Try.prog 26 31 7 Try.underlying26 (by kernel_rfl) (some ⟨g1, o1, none⟩) q.length c1
                        have hzs : Hid ((zs.set ci ((A2, q.length, c1 - 1), q)).map (·.2) = (D.set ci d').map layd) := q_set hD.out.2.2.2 hq'.symm
                        have hzc : Hid (∀ w' : World, RdL Enc.slc w' (.slice (some ⟨gq, 0, none⟩) N N) (zs.map (·.1)) → w'.cell? ⟨gq, ci, none⟩ = some (.slice (some ⟨g1, o1, none⟩) (q.length + 1) c1)) := fun w' h => q_cell h hz
                        have hfin : Hid (∀ (w' : World) (bq : Nat) (o : Obj), Hs w w' [Ls Enc.slc 26 (.slice (some ⟨gq, 0, none⟩) N N) ((zs.map (·.1)).set ci (A2, q.length, c1 - 1)), Ls EFr 31 (.slice A2 q.length (c1 - 1)) q, Q, Blk bq o, GateP p (gateOf (D.set ci d')), Old w] → Hs w w' [GateP p (gateOf (D.set ci d')), Ls Enc.slc 26 (.slice (some ⟨gq, 0, none⟩) N N) ((zs.set ci ((A2, q.length, c1 - 1), q)).map (·.1)), RowsS EFr 31 (zs.set ci ((A2, q.length, c1 - 1), q)), Old w]) := fun w' bq o h => by
                          rw [List.map_set]
                          exact (shut ((A2, q.length, c1 - 1), q) h.at2.at2).at2.tail.at1.at2
                        have hopen : Hid (∀ (w' : World) (bq : Nat) (o : Obj), Hs w w' [Blk bq o, GateP p (gateOf (D.set ci d')), Ls Enc.slc 26 (.slice (some ⟨gq, 0, none⟩) N N) (zs.map (·.1)), RowsS EFr 31 zs, Old w] → Hs w w' [Ls Enc.slc 26 (.slice (some ⟨gq, 0, none⟩) N N) (zs.map (·.1)), Ls EFr 31 (.slice A2 q.length (c1 - 1)) q, Q, Blk bq o, GateP p (gateOf (D.set ci d')), Old w]) := fun w' bq o h => by
                          have h1 := foc h.at3
                          exact (Hs.ls_tail h1 rfl rfl hA2).at4
                        replace ht := Lib.hid ht
                        obtain ⟨f0, ⟨f1, f2, f3⟩, f4, f5, f6⟩ := f
                        obtain ⟨x0, ⟨x1, x2, x3⟩, x4, x5, x6⟩ := x
                        simp only at e0 e1 e2 e3 e4 e5 e6 hcase
                        have hcl : (0 : Int) ≤ 0 := by decide
                        replace hcase := Lib.hid hcase
                        clear hz hd hq hq' hl' foc shut hA2 H1 hcl
                        go_wp2_with fail
                        refine (blocked13 p _ _ w _ H.out ci).mono ?_
                        rw [hbk]
                        rintro e w5 ⟨rfl, rfl⟩
                        clear hbk
                        go_wp2_with fail
                        refine (takes p (gateOf D) N ci _ _ w _ H.out hok.out (gateOf_cap D) _ _ _ ht.out).mono ?_
                        rintro e w3 ⟨rfl, H2⟩
                        clear H e0 e1 e2 e3 e4 e5 e6 zc
                        simp only [stv]
                        go_upto_region 33 with (fail)
                        have H3 := hopen.out _ _ _ (H2.alloc (.cells #[.int .i64 x0, .int .i64 x1, .int .i64 x2, .int .i64 x3, .int .i64 x4, .int .u64 x5, .int .u64 x6] 38))
                        clear H2 hopen
                        generalize World.alloc _ _ = w4 at H3 ⊢
                        generalize w3.heap.size = bq at H3 ⊢
                        have zc := hzc.out _ H3.ls_rd
                        have fz := H3.ls_frozen ci
                        have H4 := Lib.hid (H3.ls_set0 rfl ci hcN (A2, q.length, c1 - 1) (.slice A2 q.length (c1 - 1)) rfl)
                        clear H3 hzc
                        go_upto_region 34 with (fail)
                        generalize World.setCell w4 _ _ = w6 at H4 ⊢
                        clear zc fz hcut
                        have b0 : w6.cell? ⟨bq, 0, none⟩ = some (.int .i64 x0) := H4.out.at3.cellOf 0 rfl
                        have b3 : w6.cell? ⟨bq, 3, none⟩ = some (.int .i64 x3) := H4.out.at3.cellOf 3 rfl
                        have H5 : Hid _ := hfin.out _ _ _ H4.out
                        clear H4 hfin
                        rcases hcase.out with ⟨rfl, hk1, hk2, hta, hAl⟩ | ⟨rfl, hk1, hAl⟩ | ⟨rfl, hk1, hk2, hAl⟩
                        · rw [hkb.out] at hk1
                          subst hk1
                          replace hAl := Lib.hid hAl
                          have hta' : ((told : Int) != (na : Int)) = false := by rw [hta]; simp
                          replace hta := Lib.hid hta
                          replace hk2 := Lib.hid hk2
                          go_wp2_with fail
                          go_roundg (1001 - (i + 1))
                          case measure => have := hk.out; omega
                          case rel => exact ⟨i + 1, told, _, _, by have := hk.out; omega, by rw [hk2.out], rfl, by rw [hlf'.out], by go_num, ⟨hAl.out, hpr.out, hlb.out, hzs.out⟩, H5⟩
                        · rw [hkb.out] at hk1
                          replace hAl := Lib.hid hAl
                          replace hk1 := Lib.hid hk1
                          go_wp2_with fail
                          go_roundg (1001 - (i + 1))
                          case measure => have := hk.out; omega
                          case rel => exact ⟨i + 1, told, _, _, by have := hk.out; omega, by rw [hk1.out], rfl, by rw [hlf'.out], by go_num, ⟨hAl.out, hpr.out, hlb.out, hzs.out⟩, H5⟩
                        · rw [hkb.out] at hk1 hk2
                          replace hAl := Lib.hid hAl
                          replace hk2 := Lib.hid hk2
                          have hk3 : (x3 == 2) = kb := by rw [Bool.eq_iff_iff, beq_iff_eq]; exact hk1
                          clear hk1
                          go_wp2_with fail
                          go_roundg (1001 - (i + 1))
                          case measure => have := hk.out; omega
                          case rel => exact ⟨i + 1, told + 1, _, _, by have := hk.out; omega, by rw [hk2.out], by go_num, by rw [hlf'.out], by go_num, ⟨hAl.out, hpr.out, hlb.out, hzs.out⟩, H5⟩

end Go.Proofs.Ytlhgmfdmkckmhaa

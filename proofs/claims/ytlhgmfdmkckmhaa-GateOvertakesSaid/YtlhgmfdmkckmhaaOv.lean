import Derived.Test.YtlhgmfdmkckmhaaOa
import Derived.Test.YtlhgmfdmkckmhaaOu
import Derived.Test.YtlhgmfdmkckmhaaPn
import Derived.IntWalk
import Derived.Laws.MakeOwn
import Derived.Test.YtlhgmfdmkckmhaaProg
import Derived.Test.YtlhgmfdmkckmhaaLs
import Derived.Outline
import Derived.StillTailTactics
import Derived.Deep.DeepCutAuto
import Derived.Deep.CutBlock
import Derived.Deep.LoopGhost
import Derived.Deep.QuietTactic
import Derived.BigQuiet
import Derived.Deep.RegionHeld3
import Derived.Deep.RegionLaw
set_option linter.unusedVariables false
set_option linter.unusedSimpArgs false
namespace Go.Proofs.Ytlhgmfdmkckmhaa
open Go.RowKit
set_option maxRecDepth 100000 in
set_option maxHeartbeats 8000000 in
theorem gateovertakes_walk (n0 : Int) (Aa : Option Addr) (na ca : Nat) (xs : List Int) (Ab : Option Addr) (nb cb : Nat) (ys : List Int) (Ao : Option Addr) (no co : Nat) (os : List Int) (w : World) (hn : (Lit.int .i64 n0).wf = true)
    (hra : RdL (Enc.num .u8) w (.slice Aa na ca) xs) (hoka : ∀ x ∈ xs, (Lit.int .u8 x).wf = true) (hrb : RdL (Enc.num .u8) w (.slice Ab nb cb) ys) (hokb : ∀ x ∈ ys, (Lit.int .u8 x).wf = true) (hro : RdL (Enc.num .u8) w (.slice Ao no co) os) (hoko : ∀ x ∈ os, (Lit.int .u8 x).wf = true) :
    Calls Try.prog 4 #[.int .i64 n0, .slice Aa na ca, .slice Ab nb cb, .slice Ao no co] w fun e w' => e = .returned (.bool true) ∧ Below w.heap.size w w' := by
  clear hn
  obtain ⟨m, hm⟩ : ∃ m : Nat, n0 % 6 = (m : Int) := ⟨(n0 % 6).toNat, by omega⟩
  obtain ⟨N, hN⟩ : ∃ N, N = m + 1 := ⟨_, rfl⟩
  have hw1 : IntKind.i64.wrap (1 + (m : Int)) = (N : Int) := by rw [IntWalk.i64_in _ (by omega)]; omega
  have hN8 : N ≤ 6 := by omega
  have hN1 : 1 ≤ N := by omega
  have hNz : ((N : Int) == 0) = false := by rw [beq_eq_false_iff_ne]; omega
  have hNz2 : (N : Int) ≠ 0 := by omega
  replace hm := Lib.hid hm
  clear hN
  have hcapa := hra.caps.2
  have hcapb := hrb.caps.2
  have hcapo := hro.caps.2
  have hxl := Lib.hid hra.caps.1
  have hyl := Lib.hid hrb.caps.1
  have hol := Lib.hid hro.caps.1
  replace hra := Lib.hid hra
  replace hrb := Lib.hid hrb
  replace hro := Lib.hid hro
  have hmk : ∀ w, (Instr.makeSlice 25 (.int .i64 (N : Int)) (.int .i64 (N : Int))).run Try.prog w = .ok (.slice (some ⟨w.heap.size, 0, none⟩) N N) (w.alloc (.cells (madeCells #[.slice none 0 0] N) 26)) := run_make_row' (P := Try.prog) 25 26 (.slice none 0 0) 24 Try.underlying25 infoFs rfl .i64 .i64 N (by omega) (by omega)
  rcases (show (30 : Int) < (na : Int) ∨ (na : Int) ≤ 30 by omega) with h3 | h3
  · go_enter Try.func4, Try.ntmps4
    go_wp2_with fail
    refine (known8 w w _ (Hs.start w)).mono ?_
    rintro e w1 ⟨rfl, H⟩
    go_wp2_with fail
    refine (place9 n0 6 _ (by omega) (by omega)).mono ?_
    rw [hm.out]
    rintro e w2 ⟨rfl, rfl⟩
    go_wp2_with fail
    go_ret
    exact ⟨rfl, H.under_old⟩
  have h3' : decide ((30 : Int) < (na : Int)) = false := by rw [decide_eq_false_iff_not]; omega
  rcases (show (30 : Int) < (nb : Int) ∨ (nb : Int) ≤ 30 by omega) with h4 | h4
  · go_enter Try.func4, Try.ntmps4
    go_wp2_with fail
    refine (known8 w w _ (Hs.start w)).mono ?_
    rintro e w1 ⟨rfl, H⟩
    go_wp2_with fail
    refine (place9 n0 6 _ (by omega) (by omega)).mono ?_
    rw [hm.out]
    rintro e w2 ⟨rfl, rfl⟩
    go_wp2_with fail
    go_ret
    exact ⟨rfl, H.under_old⟩
  have h4' : decide ((30 : Int) < (nb : Int)) = false := by rw [decide_eq_false_iff_not]; omega
  rcases (show (200 : Int) < (no : Int) ∨ (no : Int) ≤ 200 by omega) with h5 | h5
  · go_enter Try.func4, Try.ntmps4
    go_wp2_with fail
    refine (known8 w w _ (Hs.start w)).mono ?_
    rintro e w1 ⟨rfl, H⟩
    go_wp2_with fail
    refine (place9 n0 6 _ (by omega) (by omega)).mono ?_
    rw [hm.out]
    rintro e w2 ⟨rfl, rfl⟩
    go_wp2_with fail
    go_ret
    exact ⟨rfl, H.under_old⟩
  have h5n : no ≤ 200 := by omega
  have h5' : decide ((200 : Int) < (no : Int)) = false := by rw [decide_eq_false_iff_not]; omega
  have hmk2 : ∀ w, (Instr.makeSlice 44 (.int .i64 (N : Int)) (.int .i64 (N : Int))).run Try.prog w = .ok (.slice (some ⟨w.heap.size, 0, none⟩) N N) (w.alloc (.cells (madeCells #[.bool false] N) 4)) := run_make_row' (P := Try.prog) 44 4 (.bool false) 1 Try.underlying44 infoB rfl .i64 .i64 N (by omega) (by omega)
  replace hmk2 := Lib.hid hmk2
  have hwl : IntKind.i64.wrap ((na : Int) + (nb : Int)) = (na : Int) + (nb : Int) := IntWalk.i64_in _ (by omega)
  have hwl2 : IntKind.i64.wrap ((na : Int) + (nb : Int) + (N : Int)) = ((na + nb + N : Nat) : Int) := by rw [IntWalk.i64_in _ (by omega)]; omega
  go_enter Try.func4, Try.ntmps4
  go_wp2_with fail
  refine (known8 w w _ (Hs.start w)).mono ?_
  rintro e w1 ⟨rfl, H⟩
  go_wp2_with fail
  refine (place9 n0 6 _ (by omega) (by omega)).mono ?_
  rw [hm.out]
  rintro e w2 ⟨rfl, rfl⟩
  go_wp2_with fail
  have H2 : Hid (Hs w (w1.alloc (.cells (madeCells #[.slice none 0 0] N) 26)) [Ls Enc.slc 26 (.slice (some ⟨w1.heap.size, 0, none⟩) N N) (List.replicate N (none, 0, 0)), Old w]) := H.ls_made (E := Enc.slc) 26 (none, 0, 0) (.slice none 0 0) rfl N (by omega)
  clear H hmk h3' h4' h5'
  generalize World.alloc w1 _ = w2 at *
  generalize w1.heap.size = gq at *
  have H3 : Hid (Hs w w2 [Ls Enc.slc 26 (.slice (some ⟨gq, 0, none⟩) N N) ((List.replicate N (((none, 0, 0), []) : Z Fr)).map (·.1)), RowsS EFr 31 (List.replicate N ((none, 0, 0), [])), Old w]) := by
    have h := (RowsS.nils (E := EFr) (t := 31) H2.out N).at1
    rwa [show (List.replicate N ((none, 0, 0) : Slc)) = (List.replicate N (((none, 0, 0), []) : Z Fr)).map (·.1) by rw [List.map_replicate]] at h
  clear H2
  go_loopg [10] na (fun k iv wr => ∃ (j : Nat) (zs : List (Z Fr)), k + j = na ∧ iv = .int .i64 j ∧ Hid (L1 N j zs) ∧ Hid (Hs w wr [Ls Enc.slc 26 (.slice (some ⟨gq, 0, none⟩) N N) (zs.map (·.1)), RowsS EFr 31 zs, Old w]))
  case atStart => exact ⟨0, _, rfl, rfl, ⟨by simp, fun z hz => by rw [List.eq_of_mem_replicate hz]; exact fun f hf => absurd hf List.not_mem_nil, tot_nils N⟩, H3⟩
  case round =>
    clear H3
    obtain ⟨j, zs, hk, rfl, hD, H⟩ := hrel
    replace hk := Lib.hid hk
    rcases Nat.lt_or_ge j na with hj | hj
    · have hj0 : (0 : Int) ≤ (j : Int) := by omega
      have hj1 : (j : Int) < (na : Int) := by omega
      have hw6 : IntKind.i64.wrap ((j : Int) + 1) = ((j + 1 : Nat) : Int) := by rw [IntWalk.i64_in _ (by omega)]; omega
      obtain ⟨x, hx⟩ : ∃ x, xs[j]? = some x := ⟨_, List.getElem?_eq_getElem (by have := hxl.out; omega)⟩
      obtain ⟨hx0, hx1⟩ := u8_in (hoka x (List.mem_of_getElem? hx))
      have hrd := hra.out.old H.out.at2
      obtain ⟨ga, oa, rfl⟩ := hrd.some_ (by have := hxl.out; omega)
      have s0 : wr.cell? ⟨ga, oa + j, none⟩ = some (.int .u8 x) := by have := hrd.cell hx 0 rfl; simpa [Enc.num] using this
      have hxw : IntKind.i64.wrap x = x := IntWalk.i64_in _ (by omega)
      obtain ⟨ci, hci, hcN, hcm⟩ := rem_nat N hN1 hx0
      clear hcm hrd hx
      have hc0 : (0 : Int) ≤ (ci : Int) := by omega
      have hc1 : (ci : Int) < (N : Int) := by omega
      obtain ⟨z, hz⟩ : ∃ z, zs[ci]? = some z := ⟨_, List.getElem?_eq_getElem (by rw [hD.out.len]; exact hcN)⟩
      obtain ⟨Q, foc, shut⟩ := RowsS.focus (E := EFr) (t := 31) zs ci z hz
      have hlen := RowsS.lens zs H.out.at1 z (List.mem_of_getElem? hz)
      have hzc := Lib.hid (fun (w' : World) (h : RdL Enc.slc w' (.slice (some ⟨gq, 0, none⟩) N N) (zs.map (·.1))) => q_cell h hz)
      have hfl : z.2.length ≤ 1000000 := by have := le_tot zs ci z hz; have := hD.out.sum; omega
      obtain ⟨⟨A1, n1, c1⟩, fs⟩ := z
      simp only at hlen hzc hfl
      subst hlen
      have hnew : Hid (∀ (s' : Slc) (f : Fr), (f.1 = 1 ∨ f.1 = 2) → L1 N (j + 1) (zs.set ci (s', fs ++ [f]))) := fun s' f hf => hD.out.step ci _ s' fs f hz hf
      have hopen : Hid (∀ (w' : World) (bf : Nat) (o : Obj), Hs w w' [Blk bf o, Ls Enc.slc 26 (.slice (some ⟨gq, 0, none⟩) N N) (zs.map (·.1)), RowsS EFr 31 zs, Old w] → Hs w w' [Ls EFr 31 (.slice A1 fs.length c1) fs, Q, Blk bf o, Ls Enc.slc 26 (.slice (some ⟨gq, 0, none⟩) N N) (zs.map (·.1)), Old w]) := fun w' bf o h => foc h.at2
      have hshut : Hid (∀ (w' : World) (A5 : Option Addr) (c5 bf : Nat) (o : Obj) (f : Fr), Hs w w' [Ls Enc.slc 26 (.slice (some ⟨gq, 0, none⟩) N N) ((zs.map (·.1)).set ci (A5, fs.length + 1, c5)), Ls EFr 31 (.slice A5 (fs.length + 1) c5) (fs ++ [f]), Q, Blk bf o, Old w] → Hs w w' [Ls Enc.slc 26 (.slice (some ⟨gq, 0, none⟩) N N) ((zs.set ci ((A5, fs.length + 1, c5), fs ++ [f])).map (·.1)), RowsS EFr 31 (zs.set ci ((A5, fs.length + 1, c5), fs ++ [f])), Old w]) := fun w' A5 c5 bf o f h => by
        rw [List.map_set]
        exact (shut ((A5, fs.length + 1, c5), fs ++ [f]) h.at3.tail.at2.at2).at1
      clear foc shut
      replace hz := Lib.hid hz
      obtain ⟨j4, hj4, _, hj4'⟩ := rem_nat 4 (by decide) hj0
      clear hj4'
      replace hj4 : (j : Int).tmod 4 = (j4 : Int) := hj4
      rcases (show j4 = 3 ∨ ((j4 : Int) == 3) = false from by
        rcases Nat.decEq j4 3 with h | h
        · right; rw [beq_eq_false_iff_ne]; omega
        · left; exact h) with hj43 | hj43
      · subst hj43
        go_wp2_with fail
        refine (rec10 j _ w _ H.out).mono ?_
        rintro e w2 ⟨rfl, H1⟩
        clear H s0
        simp only [frv, recF]
        go_upto_region 12 with (fail)
        have H2 := Lib.hid (H1.alloc (.cells #[.int .i64 1, .int .i64 0, .int .i64 0, .int .i64 j, .int .i64 0, .int .u64 0, .bool false] 31))
        clear H1
        generalize World.alloc _ _ = w4 at H2 ⊢
        generalize w2.heap.size = bf at H2 ⊢
        have c0 : w4.cell? ⟨bf, 0, none⟩ = some (.int .i64 1) := H2.out.cellOf 0 rfl
        have c1 : w4.cell? ⟨bf, 1, none⟩ = some (.int .i64 0) := H2.out.cellOf 1 rfl
        have c2 : w4.cell? ⟨bf, 2, none⟩ = some (.int .i64 0) := H2.out.cellOf 2 rfl
        have c3 : w4.cell? ⟨bf, 3, none⟩ = some (.int .i64 j) := H2.out.cellOf 3 rfl
        have c4 : w4.cell? ⟨bf, 4, none⟩ = some (.int .i64 0) := H2.out.cellOf 4 rfl
        have c5 : w4.cell? ⟨bf, 5, none⟩ = some (.int .u64 0) := H2.out.cellOf 5 rfl
        have c6 : w4.cell? ⟨bf, 6, none⟩ = some (.bool false) := H2.out.cellOf 6 rfl
        have g0 := H2.out.frozenOf 0
        have g1 := H2.out.frozenOf 1
        have g2 := H2.out.frozenOf 2
        have g3 := H2.out.frozenOf 3
        have g4 := H2.out.frozenOf 4
        have g5 := H2.out.frozenOf 5
        have g6 := H2.out.frozenOf 6

        go_upto_region 14 with (fail)
        have H4 := (((((((H2.out.setCell (i := 0) (.int .i64 2)).setCell (i := 1) (.int .i64 0)).setCell (i := 2) (.int .i64 0)).setCell (i := 3) (.int .i64 0)).setCell (i := 4) (.int .i64 j)).setCell (i := 5) (.int .u64 0)).setCell (i := 6) (.bool false))
        generalize World.setCell _ _ _ = w9 at H4 ⊢
        simp only [List.setIfInBounds_toArray, List.set_cons_zero, List.set_cons_succ] at H4
        have H1 := hopen.out _ _ _ H4
        clear H2 H4 hopen c0 g0 c1 g1 c2 g2 c3 g3 c4 g4 c5 g5 c6 g6
        refine wp_region_left (S := fun w' : World => w'.cell? ⟨gq, ci, none⟩ = some (.slice A1 fs.length c1) ∧ w'.cell? ⟨bf, 0, none⟩ = some (.int .i64 2) ∧ w'.cell? ⟨bf, 1, none⟩ = some (.int .i64 0) ∧ w'.cell? ⟨bf, 2, none⟩ = some (.int .i64 0) ∧ w'.cell? ⟨bf, 3, none⟩ = some (.int .i64 0) ∧ w'.cell? ⟨bf, 4, none⟩ = some (.int .i64 j) ∧ w'.cell? ⟨bf, 5, none⟩ = some (.int .u64 0) ∧ w'.cell? ⟨bf, 6, none⟩ = some (.bool false)) 10 mixed ?_
        have hS : (fun w' : World => w'.cell? ⟨gq, ci, none⟩ = some (.slice A1 fs.length c1) ∧ w'.cell? ⟨bf, 0, none⟩ = some (.int .i64 2) ∧ w'.cell? ⟨bf, 1, none⟩ = some (.int .i64 0) ∧ w'.cell? ⟨bf, 2, none⟩ = some (.int .i64 0) ∧ w'.cell? ⟨bf, 3, none⟩ = some (.int .i64 0) ∧ w'.cell? ⟨bf, 4, none⟩ = some (.int .i64 j) ∧ w'.cell? ⟨bf, 5, none⟩ = some (.int .u64 0) ∧ w'.cell? ⟨bf, 6, none⟩ = some (.bool false)) w9.drew := by exact ⟨hzc.out _ H1.drew.at3.ls_rd, H1.drew.at2.cellOf 0 rfl, H1.drew.at2.cellOf 1 rfl, H1.drew.at2.cellOf 2 rfl, H1.drew.at2.cellOf 3 rfl, H1.drew.at2.cellOf 4 rfl, H1.drew.at2.cellOf 5 rfl, H1.drew.at2.cellOf 6 rfl⟩
        refine Left.pure (i := 0) (v := ?va14_0) rfl (by kernel_rfl) (fun _ _ _ h => h) (Or.inr hS) (Or.inl ⟨by rfl, fun w _ => ?hya14_0⟩) ?resta14_0
        case hya14_0 => (go_simp; try with_reducible rfl)
        try simp only [Act.put, List.setIfInBounds_toArray, List.set_cons_zero, List.set_cons_succ]
        refine Left.pure (i := 1) (v := ?va14_1) rfl (by kernel_rfl) (fun _ _ _ h => h) (Or.inr hS) (Or.inl ⟨by rfl, fun w _ => ?hya14_1⟩) ?resta14_1
        case hya14_1 => (go_simp; try with_reducible rfl)
        try simp only [Act.put, List.setIfInBounds_toArray, List.set_cons_zero, List.set_cons_succ]
        refine Left.pure (i := 2) (v := ?va14_2) rfl (by kernel_rfl) (fun _ _ _ h => h) (Or.inr hS) (Or.inl ⟨by rfl, fun w _ => ?hya14_2⟩) ?resta14_2
        case hya14_2 => (go_simp; try with_reducible rfl)
        try simp only [Act.put, List.setIfInBounds_toArray, List.set_cons_zero, List.set_cons_succ]
        refine Left.pure (i := 3) (v := ?va14_3) rfl (by kernel_rfl) (fun _ _ _ h => h) (Or.inr hS) (Or.inl ⟨by rfl, fun w _ => ?hya14_3⟩) ?resta14_3
        case hya14_3 => (go_simp; try with_reducible rfl)
        try simp only [Act.put, List.setIfInBounds_toArray, List.set_cons_zero, List.set_cons_succ]
        refine Left.pure (i := 4) (v := ?va14_4) rfl (by kernel_rfl) (fun _ _ _ h => h) (Or.inr hS) (Or.inl ⟨by rfl, fun w _ => ?hya14_4⟩) ?resta14_4
        case hya14_4 => (go_simp; try with_reducible rfl)
        try simp only [Act.put, List.setIfInBounds_toArray, List.set_cons_zero, List.set_cons_succ]
        refine Left.take (i := 5) (v := ?va14_5) rfl (by kernel_rfl) (fun _ _ _ h => h) hS (Or.inl ⟨by rfl, fun w hSw => ?hya14_5⟩) ?resta14_5
        case hya14_5 => ((try dsimp only at hSw); go_simp; try with_reducible rfl)
        try simp only [Act.put, List.setIfInBounds_toArray, List.set_cons_zero, List.set_cons_succ]
        refine Left.take (i := 6) (v := ?va14_6) rfl (by kernel_rfl) (fun _ _ _ h => h) hS (Or.inl ⟨by rfl, fun w hSw => ?hya14_6⟩) ?resta14_6
        case hya14_6 => ((try dsimp only at hSw); go_simp; try with_reducible rfl)
        try simp only [Act.put, List.setIfInBounds_toArray, List.set_cons_zero, List.set_cons_succ]
        refine Left.run (i := 7) rfl (by kernel_rfl) (fun K hK => ?_)
        have H3 := H1.drew.alloc (.cells #[.int .i64 2, .int .i64 0, .int .i64 0, .int .i64 0, .int .i64 j, .int .u64 0, .bool false] 31)
        go_simp
        replace hS : (fun w' : World => w'.cell? ⟨gq, ci, none⟩ = some (.slice A1 fs.length c1) ∧ w'.cell? ⟨bf, 0, none⟩ = some (.int .i64 2) ∧ w'.cell? ⟨bf, 1, none⟩ = some (.int .i64 0) ∧ w'.cell? ⟨bf, 2, none⟩ = some (.int .i64 0) ∧ w'.cell? ⟨bf, 3, none⟩ = some (.int .i64 0) ∧ w'.cell? ⟨bf, 4, none⟩ = some (.int .i64 j) ∧ w'.cell? ⟨bf, 5, none⟩ = some (.int .u64 0) ∧ w'.cell? ⟨bf, 6, none⟩ = some (.bool false)) (w9.drew.alloc (.cells #[.int .i64 2, .int .i64 0, .int .i64 0, .int .i64 0, .int .i64 j, .int .u64 0, .bool false] 31)) := by exact ⟨hzc.out _ (H1.drew.alloc_ (.cells #[.int .i64 2, .int .i64 0, .int .i64 0, .int .i64 0, .int .i64 j, .int .u64 0, .bool false] 31)).at3.ls_rd, (H1.drew.alloc_ (.cells #[.int .i64 2, .int .i64 0, .int .i64 0, .int .i64 0, .int .i64 j, .int .u64 0, .bool false] 31)).at2.cellOf 0 rfl, (H1.drew.alloc_ (.cells #[.int .i64 2, .int .i64 0, .int .i64 0, .int .i64 0, .int .i64 j, .int .u64 0, .bool false] 31)).at2.cellOf 1 rfl, (H1.drew.alloc_ (.cells #[.int .i64 2, .int .i64 0, .int .i64 0, .int .i64 0, .int .i64 j, .int .u64 0, .bool false] 31)).at2.cellOf 2 rfl, (H1.drew.alloc_ (.cells #[.int .i64 2, .int .i64 0, .int .i64 0, .int .i64 0, .int .i64 j, .int .u64 0, .bool false] 31)).at2.cellOf 3 rfl, (H1.drew.alloc_ (.cells #[.int .i64 2, .int .i64 0, .int .i64 0, .int .i64 0, .int .i64 j, .int .u64 0, .bool false] 31)).at2.cellOf 4 rfl, (H1.drew.alloc_ (.cells #[.int .i64 2, .int .i64 0, .int .i64 0, .int .i64 0, .int .i64 j, .int .u64 0, .bool false] 31)).at2.cellOf 5 rfl, (H1.drew.alloc_ (.cells #[.int .i64 2, .int .i64 0, .int .i64 0, .int .i64 0, .int .i64 j, .int .u64 0, .bool false] 31)).at2.cellOf 6 rfl⟩
        refine hK.out _ _ (Or.inr hS) ?_
        clear hK K
        try simp only [Act.put, List.setIfInBounds_toArray, List.set_cons_zero, List.set_cons_succ]
        refine Left.run (i := 8) rfl (by kernel_rfl) (fun K hK => ?_)
        refine step_append_box (E := EFr) (v := .slice A1 fs.length c1) (by rfl) (.tmp 72) (.tmp 74) 26 (by rfl) 31 _ 7 56 Try.underlying26 infoF rfl (by decide) (by decide) rfl (by rfl) (by rfl) (H1.drew.alloc_ _) ((2, (0, 0, 0), (j : Int), 0, false)) (by exact RdL.boxAt _ (by simp)) (by omega) ?_
        intro A5 c5 w5 H4
        replace hS : (fun w' : World => w'.cell? ⟨gq, ci, none⟩ = some (.slice A1 fs.length c1) ∧ w'.cell? ⟨bf, 0, none⟩ = some (.int .i64 2) ∧ w'.cell? ⟨bf, 1, none⟩ = some (.int .i64 0) ∧ w'.cell? ⟨bf, 2, none⟩ = some (.int .i64 0) ∧ w'.cell? ⟨bf, 3, none⟩ = some (.int .i64 0) ∧ w'.cell? ⟨bf, 4, none⟩ = some (.int .i64 j) ∧ w'.cell? ⟨bf, 5, none⟩ = some (.int .u64 0) ∧ w'.cell? ⟨bf, 6, none⟩ = some (.bool false)) w5 := by exact ⟨hzc.out _ H4.at3.ls_rd, H4.at2.cellOf 0 rfl, H4.at2.cellOf 1 rfl, H4.at2.cellOf 2 rfl, H4.at2.cellOf 3 rfl, H4.at2.cellOf 4 rfl, H4.at2.cellOf 5 rfl, H4.at2.cellOf 6 rfl⟩
        refine hK.out _ _ (Or.inr hS) ?_
        clear hK K
        try simp only [Act.put, List.setIfInBounds_toArray, List.set_cons_zero, List.set_cons_succ]
        refine Left.pure (i := 9) (v := ?va14_9) rfl (by kernel_rfl) (fun _ _ _ h => h) (Or.inr hS) (Or.inl ⟨by rfl, fun w _ => ?hya14_9⟩) ?resta14_9
        case hya14_9 => (go_simp; try with_reducible rfl)
        try simp only [Act.put, List.setIfInBounds_toArray, List.set_cons_zero, List.set_cons_succ]
        refine Left.run (i := 10) rfl (by kernel_rfl) (fun K hK => ?_)
        have f1 := H4.at3.ls_frozen ci
        have d1 := hzc.out _ H4.at3.ls_rd
        go_simp
        refine hK.out _ _ (Or.inl (by kernel_rfl)) ?_
        clear hK K
        try simp only [Act.put, List.setIfInBounds_toArray, List.set_cons_zero, List.set_cons_succ]
        refine Left.done (by kernel_rfl) ?_ _

        clear f1 d1
        go_wp2_with fail
        go_roundg (na - (j + 1))
        case measure => have := hk.out; omega
        case rel => exact ⟨j + 1, _, by have := hk.out; omega, by go_num, hnew.out _ _ (.inr rfl), hshut.out _ _ _ _ _ _ (H4.at3.ls_set0 rfl ci hcN (A5, fs.length + 1, c5) _ rfl)⟩
      · go_wp2_with fail
        refine (rec10 j _ w _ H.out).mono ?_
        rintro e w2 ⟨rfl, H1⟩
        clear H s0
        simp only [frv, recF]
        go_upto_region 12 with (fail)
        have H2 := Lib.hid (H1.alloc (.cells #[.int .i64 1, .int .i64 0, .int .i64 0, .int .i64 j, .int .i64 0, .int .u64 0, .bool false] 31))
        clear H1
        generalize World.alloc _ _ = w4 at H2 ⊢
        generalize w2.heap.size = bf at H2 ⊢
        go_upto_region 14 with (fail)
        have H1 := hopen.out _ _ _ H2.out
        clear H2 hopen
        generalize hw9 : w4 = w9 at *
        clear hw9
        refine wp_region_left (S := fun w' : World => w'.cell? ⟨gq, ci, none⟩ = some (.slice A1 fs.length c1) ∧ w'.cell? ⟨bf, 0, none⟩ = some (.int .i64 1) ∧ w'.cell? ⟨bf, 1, none⟩ = some (.int .i64 0) ∧ w'.cell? ⟨bf, 2, none⟩ = some (.int .i64 0) ∧ w'.cell? ⟨bf, 3, none⟩ = some (.int .i64 j) ∧ w'.cell? ⟨bf, 4, none⟩ = some (.int .i64 0) ∧ w'.cell? ⟨bf, 5, none⟩ = some (.int .u64 0) ∧ w'.cell? ⟨bf, 6, none⟩ = some (.bool false)) 10 mixed ?_
        have hS : (fun w' : World => w'.cell? ⟨gq, ci, none⟩ = some (.slice A1 fs.length c1) ∧ w'.cell? ⟨bf, 0, none⟩ = some (.int .i64 1) ∧ w'.cell? ⟨bf, 1, none⟩ = some (.int .i64 0) ∧ w'.cell? ⟨bf, 2, none⟩ = some (.int .i64 0) ∧ w'.cell? ⟨bf, 3, none⟩ = some (.int .i64 j) ∧ w'.cell? ⟨bf, 4, none⟩ = some (.int .i64 0) ∧ w'.cell? ⟨bf, 5, none⟩ = some (.int .u64 0) ∧ w'.cell? ⟨bf, 6, none⟩ = some (.bool false)) w9.drew := by exact ⟨hzc.out _ H1.drew.at3.ls_rd, H1.drew.at2.cellOf 0 rfl, H1.drew.at2.cellOf 1 rfl, H1.drew.at2.cellOf 2 rfl, H1.drew.at2.cellOf 3 rfl, H1.drew.at2.cellOf 4 rfl, H1.drew.at2.cellOf 5 rfl, H1.drew.at2.cellOf 6 rfl⟩
        refine Left.pure (i := 0) (v := ?vb14_0) rfl (by kernel_rfl) (fun _ _ _ h => h) (Or.inr hS) (Or.inl ⟨by rfl, fun w _ => ?hyb14_0⟩) ?restb14_0
        case hyb14_0 => (go_simp; try with_reducible rfl)
        try simp only [Act.put, List.setIfInBounds_toArray, List.set_cons_zero, List.set_cons_succ]
        refine Left.pure (i := 1) (v := ?vb14_1) rfl (by kernel_rfl) (fun _ _ _ h => h) (Or.inr hS) (Or.inl ⟨by rfl, fun w _ => ?hyb14_1⟩) ?restb14_1
        case hyb14_1 => (go_simp; try with_reducible rfl)
        try simp only [Act.put, List.setIfInBounds_toArray, List.set_cons_zero, List.set_cons_succ]
        refine Left.pure (i := 2) (v := ?vb14_2) rfl (by kernel_rfl) (fun _ _ _ h => h) (Or.inr hS) (Or.inl ⟨by rfl, fun w _ => ?hyb14_2⟩) ?restb14_2
        case hyb14_2 => (go_simp; try with_reducible rfl)
        try simp only [Act.put, List.setIfInBounds_toArray, List.set_cons_zero, List.set_cons_succ]
        refine Left.pure (i := 3) (v := ?vb14_3) rfl (by kernel_rfl) (fun _ _ _ h => h) (Or.inr hS) (Or.inl ⟨by rfl, fun w _ => ?hyb14_3⟩) ?restb14_3
        case hyb14_3 => (go_simp; try with_reducible rfl)
        try simp only [Act.put, List.setIfInBounds_toArray, List.set_cons_zero, List.set_cons_succ]
        refine Left.pure (i := 4) (v := ?vb14_4) rfl (by kernel_rfl) (fun _ _ _ h => h) (Or.inr hS) (Or.inl ⟨by rfl, fun w _ => ?hyb14_4⟩) ?restb14_4
        case hyb14_4 => (go_simp; try with_reducible rfl)
        try simp only [Act.put, List.setIfInBounds_toArray, List.set_cons_zero, List.set_cons_succ]
        refine Left.take (i := 5) (v := ?vb14_5) rfl (by kernel_rfl) (fun _ _ _ h => h) hS (Or.inl ⟨by rfl, fun w hSw => ?hyb14_5⟩) ?restb14_5
        case hyb14_5 => ((try dsimp only at hSw); go_simp; try with_reducible rfl)
        try simp only [Act.put, List.setIfInBounds_toArray, List.set_cons_zero, List.set_cons_succ]
        refine Left.take (i := 6) (v := ?vb14_6) rfl (by kernel_rfl) (fun _ _ _ h => h) hS (Or.inl ⟨by rfl, fun w hSw => ?hyb14_6⟩) ?restb14_6
        case hyb14_6 => ((try dsimp only at hSw); go_simp; try with_reducible rfl)
        try simp only [Act.put, List.setIfInBounds_toArray, List.set_cons_zero, List.set_cons_succ]
        refine Left.run (i := 7) rfl (by kernel_rfl) (fun K hK => ?_)
        have H3 := H1.drew.alloc (.cells #[.int .i64 1, .int .i64 0, .int .i64 0, .int .i64 j, .int .i64 0, .int .u64 0, .bool false] 31)
        go_simp
        replace hS : (fun w' : World => w'.cell? ⟨gq, ci, none⟩ = some (.slice A1 fs.length c1) ∧ w'.cell? ⟨bf, 0, none⟩ = some (.int .i64 1) ∧ w'.cell? ⟨bf, 1, none⟩ = some (.int .i64 0) ∧ w'.cell? ⟨bf, 2, none⟩ = some (.int .i64 0) ∧ w'.cell? ⟨bf, 3, none⟩ = some (.int .i64 j) ∧ w'.cell? ⟨bf, 4, none⟩ = some (.int .i64 0) ∧ w'.cell? ⟨bf, 5, none⟩ = some (.int .u64 0) ∧ w'.cell? ⟨bf, 6, none⟩ = some (.bool false)) (w9.drew.alloc (.cells #[.int .i64 1, .int .i64 0, .int .i64 0, .int .i64 j, .int .i64 0, .int .u64 0, .bool false] 31)) := by exact ⟨hzc.out _ (H1.drew.alloc_ (.cells #[.int .i64 1, .int .i64 0, .int .i64 0, .int .i64 j, .int .i64 0, .int .u64 0, .bool false] 31)).at3.ls_rd, (H1.drew.alloc_ (.cells #[.int .i64 1, .int .i64 0, .int .i64 0, .int .i64 j, .int .i64 0, .int .u64 0, .bool false] 31)).at2.cellOf 0 rfl, (H1.drew.alloc_ (.cells #[.int .i64 1, .int .i64 0, .int .i64 0, .int .i64 j, .int .i64 0, .int .u64 0, .bool false] 31)).at2.cellOf 1 rfl, (H1.drew.alloc_ (.cells #[.int .i64 1, .int .i64 0, .int .i64 0, .int .i64 j, .int .i64 0, .int .u64 0, .bool false] 31)).at2.cellOf 2 rfl, (H1.drew.alloc_ (.cells #[.int .i64 1, .int .i64 0, .int .i64 0, .int .i64 j, .int .i64 0, .int .u64 0, .bool false] 31)).at2.cellOf 3 rfl, (H1.drew.alloc_ (.cells #[.int .i64 1, .int .i64 0, .int .i64 0, .int .i64 j, .int .i64 0, .int .u64 0, .bool false] 31)).at2.cellOf 4 rfl, (H1.drew.alloc_ (.cells #[.int .i64 1, .int .i64 0, .int .i64 0, .int .i64 j, .int .i64 0, .int .u64 0, .bool false] 31)).at2.cellOf 5 rfl, (H1.drew.alloc_ (.cells #[.int .i64 1, .int .i64 0, .int .i64 0, .int .i64 j, .int .i64 0, .int .u64 0, .bool false] 31)).at2.cellOf 6 rfl⟩
        refine hK.out _ _ (Or.inr hS) ?_
        clear hK K
        try simp only [Act.put, List.setIfInBounds_toArray, List.set_cons_zero, List.set_cons_succ]
        refine Left.run (i := 8) rfl (by kernel_rfl) (fun K hK => ?_)
        refine step_append_box (E := EFr) (v := .slice A1 fs.length c1) (by rfl) (.tmp 72) (.tmp 74) 26 (by rfl) 31 _ 7 56 Try.underlying26 infoF rfl (by decide) (by decide) rfl (by rfl) (by rfl) (H1.drew.alloc_ _) (recF j) (by exact RdL.boxAt _ (by simp)) (by omega) ?_
        intro A5 c5 w5 H4
        replace hS : (fun w' : World => w'.cell? ⟨gq, ci, none⟩ = some (.slice A1 fs.length c1) ∧ w'.cell? ⟨bf, 0, none⟩ = some (.int .i64 1) ∧ w'.cell? ⟨bf, 1, none⟩ = some (.int .i64 0) ∧ w'.cell? ⟨bf, 2, none⟩ = some (.int .i64 0) ∧ w'.cell? ⟨bf, 3, none⟩ = some (.int .i64 j) ∧ w'.cell? ⟨bf, 4, none⟩ = some (.int .i64 0) ∧ w'.cell? ⟨bf, 5, none⟩ = some (.int .u64 0) ∧ w'.cell? ⟨bf, 6, none⟩ = some (.bool false)) w5 := by exact ⟨hzc.out _ H4.at3.ls_rd, H4.at2.cellOf 0 rfl, H4.at2.cellOf 1 rfl, H4.at2.cellOf 2 rfl, H4.at2.cellOf 3 rfl, H4.at2.cellOf 4 rfl, H4.at2.cellOf 5 rfl, H4.at2.cellOf 6 rfl⟩
        refine hK.out _ _ (Or.inr hS) ?_
        clear hK K
        try simp only [Act.put, List.setIfInBounds_toArray, List.set_cons_zero, List.set_cons_succ]
        refine Left.pure (i := 9) (v := ?vb14_9) rfl (by kernel_rfl) (fun _ _ _ h => h) (Or.inr hS) (Or.inl ⟨by rfl, fun w _ => ?hyb14_9⟩) ?restb14_9
        case hyb14_9 => (go_simp; try with_reducible rfl)
        try simp only [Act.put, List.setIfInBounds_toArray, List.set_cons_zero, List.set_cons_succ]
        refine Left.run (i := 10) rfl (by kernel_rfl) (fun K hK => ?_)
        have f1 := H4.at3.ls_frozen ci
        have d1 := hzc.out _ H4.at3.ls_rd
        go_simp
        refine hK.out _ _ (Or.inl (by kernel_rfl)) ?_
        clear hK K
        try simp only [Act.put, List.setIfInBounds_toArray, List.set_cons_zero, List.set_cons_succ]
        refine Left.done (by kernel_rfl) ?_ _

        clear f1 d1
        go_wp2_with fail
        go_roundg (na - (j + 1))
        case measure => have := hk.out; omega
        case rel => exact ⟨j + 1, _, by have := hk.out; omega, by go_num, hnew.out _ _ (.inl rfl), hshut.out _ _ _ _ _ _ (H4.at3.ls_set0 rfl ci hcN (A5, fs.length + 1, c5) _ rfl)⟩
    · have hj1 : decide ((j : Int) < (na : Int)) = false := by rw [decide_eq_false_iff_not]; omega
      have hj2 : decide (j < na) = false := by rw [decide_eq_false_iff_not]; omega
      have hD2 : Hid (L2 N na 0 zs) := by
        have h1 := hD.out.l2
        rw [show j = na from by have := hk.out; omega] at h1
        exact h1
      clear hj hD hk
      go_wp2_with fail
      clear hj1 hj2
      go_loopg [13] N (fun k iv wr => ∃ (j : Nat) (zs : List (Z Fr)), k + j = N ∧ iv = .int .i64 j ∧ Hid (L2 N na j zs) ∧ Hid (Hs w wr [Ls Enc.slc 26 (.slice (some ⟨gq, 0, none⟩) N N) (zs.map (·.1)), RowsS EFr 31 zs, Old w]))
      case atStart => exact ⟨0, zs, rfl, rfl, hD2, H⟩
      case round =>
        clear H hD2 zs
        obtain ⟨ci, zs, hk, rfl, hD, H⟩ := hrel
        replace hk := Lib.hid hk
        rcases Nat.lt_or_ge ci N with hcN | hcN
        · have hc0 : (0 : Int) ≤ (ci : Int) := by omega
          have hc1 : (ci : Int) < (N : Int) := by omega
          have hw6 : IntKind.i64.wrap ((ci : Int) + 1) = ((ci + 1 : Nat) : Int) := by rw [IntWalk.i64_in _ (by omega)]; omega
          obtain ⟨z, hz⟩ : ∃ z, zs[ci]? = some z := ⟨_, List.getElem?_eq_getElem (by rw [hD.out.len]; exact hcN)⟩
          obtain ⟨Q, foc, shut⟩ := RowsS.focus (E := EFr) (t := 31) zs ci z hz
          have hlen := RowsS.lens zs H.out.at1 z (List.mem_of_getElem? hz)
          have hzc := Lib.hid (fun (w' : World) (h : RdL Enc.slc w' (.slice (some ⟨gq, 0, none⟩) N N) (zs.map (·.1))) => q_cell h hz)
          have hfl : z.2.length ≤ 1000000 := by have := le_tot zs ci z hz; have := hD.out.sum; omega
          have H1 := foc H.out.at1
          obtain ⟨⟨A1, n1, c1⟩, fs⟩ := z
          unfold zval at H1
          simp only at hlen hzc H1 hfl
          subst hlen
          have hnew : Hid (∀ s' : Slc, L2 N na (ci + 1) (zs.set ci (s', fs ++ [barF 9 true]))) := fun s' => hD.out.step _ s' fs hz
          have hshut : Hid (∀ (w' : World) (A5 : Option Addr) (c5 : Nat), Hs w w' [Ls Enc.slc 26 (.slice (some ⟨gq, 0, none⟩) N N) ((zs.map (·.1)).set ci (A5, fs.length + 1, c5)), Ls EFr 31 (.slice A5 (fs.length + 1) c5) (fs ++ [barF 9 true]), Q, Old w] → Hs w w' [Ls Enc.slc 26 (.slice (some ⟨gq, 0, none⟩) N N) ((zs.set ci ((A5, fs.length + 1, c5), fs ++ [barF 9 true])).map (·.1)), RowsS EFr 31 (zs.set ci ((A5, fs.length + 1, c5), fs ++ [barF 9 true])), Old w]) := fun w' A5 c5 h => by
            rw [List.map_set]
            exact (shut ((A5, fs.length + 1, c5), fs ++ [barF 9 true]) h.at2.at2).at1
          clear H foc shut
          replace hz := Lib.hid hz
          generalize hw9 : wr = w9 at *
          clear hw9
          go_wp2_with fail
          refine wp_region_left (S := fun w' : World => w'.cell? ⟨gq, ci, none⟩ = some (.slice A1 fs.length c1)) 10 mixed ?_
          have hS : (fun w' : World => w'.cell? ⟨gq, ci, none⟩ = some (.slice A1 fs.length c1)) w9.drew := by exact hzc.out _ H1.drew.at2.ls_rd
          refine Left.pure (i := 0) (v := ?v18_0) rfl (by kernel_rfl) (fun _ _ _ h => h) (Or.inr hS) (Or.inl ⟨by rfl, fun w _ => ?hy18_0⟩) ?rest18_0
          case hy18_0 => (go_simp; try with_reducible rfl)
          try simp only [Act.put, List.setIfInBounds_toArray, List.set_cons_zero, List.set_cons_succ]
          refine Left.pure (i := 1) (v := ?v18_1) rfl (by kernel_rfl) (fun _ _ _ h => h) (Or.inr hS) (Or.inl ⟨by rfl, fun w _ => ?hy18_1⟩) ?rest18_1
          case hy18_1 => (go_simp; try with_reducible rfl)
          try simp only [Act.put, List.setIfInBounds_toArray, List.set_cons_zero, List.set_cons_succ]
          refine Left.pure (i := 2) (v := ?v18_2) rfl (by kernel_rfl) (fun _ _ _ h => h) (Or.inr hS) (Or.inl ⟨by rfl, fun w _ => ?hy18_2⟩) ?rest18_2
          case hy18_2 => (go_simp; try with_reducible rfl)
          try simp only [Act.put, List.setIfInBounds_toArray, List.set_cons_zero, List.set_cons_succ]
          refine Left.pure (i := 3) (v := ?v18_3) rfl (by kernel_rfl) (fun _ _ _ h => h) (Or.inr hS) (Or.inl ⟨by rfl, fun w _ => ?hy18_3⟩) ?rest18_3
          case hy18_3 => (go_simp; try with_reducible rfl)
          try simp only [Act.put, List.setIfInBounds_toArray, List.set_cons_zero, List.set_cons_succ]
          refine Left.pure (i := 4) (v := ?v18_4) rfl (by kernel_rfl) (fun _ _ _ h => h) (Or.inr hS) (Or.inl ⟨by rfl, fun w _ => ?hy18_4⟩) ?rest18_4
          case hy18_4 => (go_simp; try with_reducible rfl)
          try simp only [Act.put, List.setIfInBounds_toArray, List.set_cons_zero, List.set_cons_succ]
          refine Left.take (i := 5) (v := ?v18_5) rfl (by kernel_rfl) (fun _ _ _ h => h) hS (Or.inl ⟨by rfl, fun w hSw => ?hy18_5⟩) ?rest18_5
          case hy18_5 => ((try dsimp only at hSw); go_simp; try with_reducible rfl)
          try simp only [Act.put, List.setIfInBounds_toArray, List.set_cons_zero, List.set_cons_succ]
          refine Left.run (i := 6) rfl (by kernel_rfl) (fun K hK => ?_)
          go_simp
          go_at_call 11
          refine (bar11 9 true _ w _ H1.drew).mono ?_
          rintro e w2 ⟨rfl, H2⟩
          simp only [frv, recF, barF]
          go_simp
          replace hS : (fun w' : World => w'.cell? ⟨gq, ci, none⟩ = some (.slice A1 fs.length c1)) w2 := by exact hzc.out _ H2.at2.ls_rd
          refine hK.out _ _ (Or.inr hS) ?_
          clear hK K
          try simp only [Act.put, List.setIfInBounds_toArray, List.set_cons_zero, List.set_cons_succ]
          refine Left.run (i := 7) rfl (by kernel_rfl) (fun K hK => ?_)
          have H3 := H2.alloc (.cells #[.int .i64 3, .int .i64 0, .int .i64 0, .int .i64 0, .int .i64 0, .int .u64 9, .bool true] 31)
          go_simp
          replace hS : (fun w' : World => w'.cell? ⟨gq, ci, none⟩ = some (.slice A1 fs.length c1)) (w2.alloc (.cells #[.int .i64 3, .int .i64 0, .int .i64 0, .int .i64 0, .int .i64 0, .int .u64 9, .bool true] 31)) := by exact hzc.out _ H3.at3.ls_rd
          refine hK.out _ _ (Or.inr hS) ?_
          clear hK K
          try simp only [Act.put, List.setIfInBounds_toArray, List.set_cons_zero, List.set_cons_succ]
          refine Left.run (i := 8) rfl (by kernel_rfl) (fun K hK => ?_)
          refine step_append_box (E := EFr) (v := .slice A1 fs.length c1) (by rfl) (.tmp 87) (.tmp 89) 26 (by rfl) 31 _ 7 56 Try.underlying26 infoF rfl (by decide) (by decide) rfl (by rfl) (by rfl) (H2.alloc_ _) (barF 9 true) (by exact RdL.boxAt _ (by simp)) (by omega) ?_
          intro A5 c5 w5 H4
          replace hS : (fun w' : World => w'.cell? ⟨gq, ci, none⟩ = some (.slice A1 fs.length c1)) w5 := by exact hzc.out _ H4.at2.ls_rd
          refine hK.out _ _ (Or.inr hS) ?_
          clear hK K
          try simp only [Act.put, List.setIfInBounds_toArray, List.set_cons_zero, List.set_cons_succ]
          refine Left.pure (i := 9) (v := ?v18_9) rfl (by kernel_rfl) (fun _ _ _ h => h) (Or.inr hS) (Or.inl ⟨by rfl, fun w _ => ?hy18_9⟩) ?rest18_9
          case hy18_9 => (go_simp; try with_reducible rfl)
          try simp only [Act.put, List.setIfInBounds_toArray, List.set_cons_zero, List.set_cons_succ]
          refine Left.run (i := 10) rfl (by kernel_rfl) (fun K hK => ?_)
          have f1 := H4.at2.ls_frozen ci
          have d1 := hzc.out _ H4.at2.ls_rd
          go_simp
          refine hK.out _ _ (Or.inl (by kernel_rfl)) ?_
          clear hK K
          try simp only [Act.put, List.setIfInBounds_toArray, List.set_cons_zero, List.set_cons_succ]
          refine Left.done (by kernel_rfl) ?_ _

          clear f1 d1
          go_wp2_with fail
          go_roundg (N - (ci + 1))
          case measure => have := hk.out; omega
          case rel => exact ⟨ci + 1, _, by have := hk.out; omega, by go_num, hnew.out _, hshut.out _ _ _ (H4.at2.ls_set0 rfl ci hcN (A5, fs.length + 1, c5) _ rfl)⟩
        · have hj1 : decide ((ci : Int) < (N : Int)) = false := by rw [decide_eq_false_iff_not]; omega
          have hj2 : decide (ci < N) = false := by rw [decide_eq_false_iff_not]; omega
          have hD2 : Hid (L3 N (na + N) zs) := by
            have h1 := hD.out
            rw [show ci = N from by have := hk.out; omega] at h1
            exact h1.l3
          clear hcN hD hk
          go_wp2_with fail
          clear hj1 hj2
          go_loopg [14] nb (fun k iv wr => ∃ (j : Nat) (zs : List (Z Fr)), k + j = nb ∧ iv = .int .i64 j ∧ Hid (L3 N (na + N + j) zs) ∧ Hid (Hs w wr [Ls Enc.slc 26 (.slice (some ⟨gq, 0, none⟩) N N) (zs.map (·.1)), RowsS EFr 31 zs, Old w]))
          case atStart => exact ⟨0, zs, rfl, rfl, hD2, H⟩
          case round =>
            clear H hD2 zs
            obtain ⟨j, zs, hk, rfl, hD, H⟩ := hrel
            replace hk := Lib.hid hk
            rcases Nat.lt_or_ge j nb with hj | hj
            · have hj0 : (0 : Int) ≤ (j : Int) := by omega
              have hj1 : (j : Int) < (nb : Int) := by omega
              have hw6 : IntKind.i64.wrap ((j : Int) + 1) = ((j + 1 : Nat) : Int) := by rw [IntWalk.i64_in _ (by omega)]; omega
              obtain ⟨x, hx⟩ : ∃ x, ys[j]? = some x := ⟨_, List.getElem?_eq_getElem (by have := hyl.out; omega)⟩
              obtain ⟨hx0, hx1⟩ := u8_in (hokb x (List.mem_of_getElem? hx))
              have hrd := hrb.out.old H.out.at2
              obtain ⟨ga, oa, rfl⟩ := hrd.some_ (by have := hyl.out; omega)
              have s0 : wr.cell? ⟨ga, oa + j, none⟩ = some (.int .u8 x) := by have := hrd.cell hx 0 rfl; simpa [Enc.num] using this
              have hxw : IntKind.i64.wrap x = x := IntWalk.i64_in _ (by omega)
              obtain ⟨ci, hci, hcN, hcm⟩ := rem_nat N hN1 hx0
              clear hcm hrd hx
              have hc0 : (0 : Int) ≤ (ci : Int) := by omega
              have hc1 : (ci : Int) < (N : Int) := by omega
              obtain ⟨z, hz⟩ : ∃ z, zs[ci]? = some z := ⟨_, List.getElem?_eq_getElem (by rw [hD.out.len]; exact hcN)⟩
              obtain ⟨Q, foc, shut⟩ := RowsS.focus (E := EFr) (t := 31) zs ci z hz
              have hlen := RowsS.lens zs H.out.at1 z (List.mem_of_getElem? hz)
              have hzc := Lib.hid (fun (w' : World) (h : RdL Enc.slc w' (.slice (some ⟨gq, 0, none⟩) N N) (zs.map (·.1))) => q_cell h hz)
              have hfl : z.2.length ≤ 1000000 := by have := le_tot zs ci z hz; have := hD.out.sum; omega
              have H1 := foc H.out.at1
              obtain ⟨⟨A1, n1, c1⟩, fs⟩ := z
              unfold zval at H1
              simp only at hlen hzc H1 hfl
              subst hlen
              have hnew : Hid (∀ s' : Slc, L3 N (na + N + j + 1) (zs.set ci (s', fs ++ [recF 1000]))) := fun s' => hD.out.step ci _ s' fs hz
              have hshut : Hid (∀ (w' : World) (A5 : Option Addr) (c5 : Nat), Hs w w' [Ls Enc.slc 26 (.slice (some ⟨gq, 0, none⟩) N N) ((zs.map (·.1)).set ci (A5, fs.length + 1, c5)), Ls EFr 31 (.slice A5 (fs.length + 1) c5) (fs ++ [recF 1000]), Q, Old w] → Hs w w' [Ls Enc.slc 26 (.slice (some ⟨gq, 0, none⟩) N N) ((zs.set ci ((A5, fs.length + 1, c5), fs ++ [recF 1000])).map (·.1)), RowsS EFr 31 (zs.set ci ((A5, fs.length + 1, c5), fs ++ [recF 1000])), Old w]) := fun w' A5 c5 h => by
                rw [List.map_set]
                exact (shut ((A5, fs.length + 1, c5), fs ++ [recF 1000]) h.at2.at2).at1
              clear H foc shut
              replace hz := Lib.hid hz
              generalize hw9 : wr = w9 at *
              clear hw9
              go_wp2_with fail
              refine wp_region_left (S := fun w' : World => w'.cell? ⟨gq, ci, none⟩ = some (.slice A1 fs.length c1)) 10 mixed ?_
              have hS : (fun w' : World => w'.cell? ⟨gq, ci, none⟩ = some (.slice A1 fs.length c1)) w9.drew := by exact hzc.out _ H1.drew.at2.ls_rd
              refine Left.pure (i := 0) (v := ?v23_0) rfl (by kernel_rfl) (fun _ _ _ h => h) (Or.inr hS) (Or.inl ⟨by rfl, fun w _ => ?hy23_0⟩) ?rest23_0
              case hy23_0 => (go_simp; try with_reducible rfl)
              try simp only [Act.put, List.setIfInBounds_toArray, List.set_cons_zero, List.set_cons_succ]
              refine Left.pure (i := 1) (v := ?v23_1) rfl (by kernel_rfl) (fun _ _ _ h => h) (Or.inr hS) (Or.inl ⟨by rfl, fun w _ => ?hy23_1⟩) ?rest23_1
              case hy23_1 => (go_simp; try with_reducible rfl)
              try simp only [Act.put, List.setIfInBounds_toArray, List.set_cons_zero, List.set_cons_succ]
              refine Left.pure (i := 2) (v := ?v23_2) rfl (by kernel_rfl) (fun _ _ _ h => h) (Or.inr hS) (Or.inl ⟨by rfl, fun w _ => ?hy23_2⟩) ?rest23_2
              case hy23_2 => (go_simp; try with_reducible rfl)
              try simp only [Act.put, List.setIfInBounds_toArray, List.set_cons_zero, List.set_cons_succ]
              refine Left.pure (i := 3) (v := ?v23_3) rfl (by kernel_rfl) (fun _ _ _ h => h) (Or.inr hS) (Or.inl ⟨by rfl, fun w _ => ?hy23_3⟩) ?rest23_3
              case hy23_3 => (go_simp; try with_reducible rfl)
              try simp only [Act.put, List.setIfInBounds_toArray, List.set_cons_zero, List.set_cons_succ]
              refine Left.pure (i := 4) (v := ?v23_4) rfl (by kernel_rfl) (fun _ _ _ h => h) (Or.inr hS) (Or.inl ⟨by rfl, fun w _ => ?hy23_4⟩) ?rest23_4
              case hy23_4 => (go_simp; try with_reducible rfl)
              try simp only [Act.put, List.setIfInBounds_toArray, List.set_cons_zero, List.set_cons_succ]
              refine Left.take (i := 5) (v := ?v23_5) rfl (by kernel_rfl) (fun _ _ _ h => h) hS (Or.inl ⟨by rfl, fun w hSw => ?hy23_5⟩) ?rest23_5
              case hy23_5 => ((try dsimp only at hSw); go_simp; try with_reducible rfl)
              try simp only [Act.put, List.setIfInBounds_toArray, List.set_cons_zero, List.set_cons_succ]
              refine Left.run (i := 6) rfl (by kernel_rfl) (fun K hK => ?_)
              go_simp
              go_at_call 10
              refine (rec10 1000 _ w _ H1.drew).mono ?_
              rintro e w2 ⟨rfl, H2⟩
              simp only [frv, recF, barF]
              go_simp
              replace hS : (fun w' : World => w'.cell? ⟨gq, ci, none⟩ = some (.slice A1 fs.length c1)) w2 := by exact hzc.out _ H2.at2.ls_rd
              refine hK.out _ _ (Or.inr hS) ?_
              clear hK K
              try simp only [Act.put, List.setIfInBounds_toArray, List.set_cons_zero, List.set_cons_succ]
              refine Left.run (i := 7) rfl (by kernel_rfl) (fun K hK => ?_)
              have H3 := H2.alloc (.cells #[.int .i64 1, .int .i64 0, .int .i64 0, .int .i64 1000, .int .i64 0, .int .u64 0, .bool false] 31)
              go_simp
              replace hS : (fun w' : World => w'.cell? ⟨gq, ci, none⟩ = some (.slice A1 fs.length c1)) (w2.alloc (.cells #[.int .i64 1, .int .i64 0, .int .i64 0, .int .i64 1000, .int .i64 0, .int .u64 0, .bool false] 31)) := by exact hzc.out _ H3.at3.ls_rd
              refine hK.out _ _ (Or.inr hS) ?_
              clear hK K
              try simp only [Act.put, List.setIfInBounds_toArray, List.set_cons_zero, List.set_cons_succ]
              refine Left.run (i := 8) rfl (by kernel_rfl) (fun K hK => ?_)
              refine step_append_box (E := EFr) (v := .slice A1 fs.length c1) (by rfl) (.tmp 110) (.tmp 112) 26 (by rfl) 31 _ 7 56 Try.underlying26 infoF rfl (by decide) (by decide) rfl (by rfl) (by rfl) (H2.alloc_ _) (recF 1000) (by exact RdL.boxAt _ (by simp)) (by omega) ?_
              intro A5 c5 w5 H4
              replace hS : (fun w' : World => w'.cell? ⟨gq, ci, none⟩ = some (.slice A1 fs.length c1)) w5 := by exact hzc.out _ H4.at2.ls_rd
              refine hK.out _ _ (Or.inr hS) ?_
              clear hK K
              try simp only [Act.put, List.setIfInBounds_toArray, List.set_cons_zero, List.set_cons_succ]
              refine Left.pure (i := 9) (v := ?v23_9) rfl (by kernel_rfl) (fun _ _ _ h => h) (Or.inr hS) (Or.inl ⟨by rfl, fun w _ => ?hy23_9⟩) ?rest23_9
              case hy23_9 => (go_simp; try with_reducible rfl)
              try simp only [Act.put, List.setIfInBounds_toArray, List.set_cons_zero, List.set_cons_succ]
              refine Left.run (i := 10) rfl (by kernel_rfl) (fun K hK => ?_)
              have f1 := H4.at2.ls_frozen ci
              have d1 := hzc.out _ H4.at2.ls_rd
              go_simp
              refine hK.out _ _ (Or.inl (by kernel_rfl)) ?_
              clear hK K
              try simp only [Act.put, List.setIfInBounds_toArray, List.set_cons_zero, List.set_cons_succ]
              refine Left.done (by kernel_rfl) ?_ _

              clear f1 d1 s0
              go_wp2_with fail
              go_roundg (nb - (j + 1))
              case measure => have := hk.out; omega
              case rel => exact ⟨j + 1, _, by have := hk.out; omega, by go_num, hnew.out _, hshut.out _ _ _ (H4.at2.ls_set0 rfl ci hcN (A5, fs.length + 1, c5) _ rfl)⟩
            · have hj1 : decide ((j : Int) < (nb : Int)) = false := by rw [decide_eq_false_iff_not]; omega
              have hj2 : decide (j < nb) = false := by rw [decide_eq_false_iff_not]; omega
              have hD2 := hD.out
              rw [show na + N + j = na + nb + N from by have := hk.out; omega] at hD2
              have hD3 : Hid (QL N (List.replicate N false) zs ∧ PrG no N (na + nb + N) 0 (tot zs) (StO zs) ∧ tot zs ≤ na + nb + N) := ⟨hD2.ql, .inl (Nat.zero_le _), by rw [hD2.sum]; omega⟩
              have hL : Hid (tot zs = na + nb + N) := hD2.sum
              clear hj hD hk hD2
              go_wp2_with fail
              clear hj1 hj2
              refine (new12 N _ w _ H.out).mono ?_
              rintro e w1 ⟨p, rfl, H1⟩
              have hnew : Gt.new (N : Int) = Gt.fresh N := by unfold Gt.new; rw [show (min (max (N : Int) 1) 64).toNat = N from by omega]
              rw [hnew] at H1
              clear hnew H
              have hmk2' := hmk2.out
              go_wp2_with fail
              have H2 := Lib.hid ((H1.ls_made (E := Enc.flag) 4 false (.bool false) rfl N (by omega)).ls_nil EOut 46)
              clear H1 hmk2'
              generalize World.alloc w1 _ = w2 at *
              generalize w1.heap.size = gc at *
              go_loopg [17, 18, 19, 20, 22] 1001 (fun m cv kv fv lv iv wr => ∃ (i : Nat) (cm : List Bool) (g : Gt) (zs : List (Z Fr)), m + i = 1001 ∧ kv = .bool (keptO cm) ∧ fv = .bool (fullO cm) ∧ lv = .int .i64 (tot zs) ∧ iv = .int .i64 i ∧ Hid (Ov N cm g ∧ g.cap.length ≤ i) ∧ Hid (QL N cm zs ∧ PrG no N (na + nb + N) i (tot zs) (StO zs) ∧ tot zs ≤ na + nb + N) ∧
                Hid (Hs w wr [Ls EOut 46 cv g.cap, Ls Enc.flag 4 (.slice (some ⟨gc, 0, none⟩) N N) cm, GateP p g, Ls Enc.slc 26 (.slice (some ⟨gq, 0, none⟩) N N) (zs.map (·.1)), RowsS EFr 31 zs, Old w]))
              case atStart => exact ⟨0, List.replicate N false, Gt.fresh N, zs, rfl, by rw [show keptO (List.replicate N false) = false from has_rep N], by rw [fullO_rep N hN1], by rw [hL.out]; go_num, rfl, ⟨Ov.fresh N hN1, Nat.le_refl 0⟩, hD3, H2⟩
              case round =>
                clear H2 hD3 hL zs
                obtain ⟨i, cm, g, zs, hk, rfl, rfl, rfl, rfl, hO, hD, H⟩ := hrel
                replace hk := Lib.hid hk
                obtain ⟨Ak, ck, rfl⟩ := H.out.ls_form
                rcases Nat.eq_zero_or_pos (tot zs) with hl | hl
                · obtain ⟨hfu, hke⟩ := hD.out.1.full hO.out.1.len hN1 hl
                  rw [hfu, hke, hl]
                  have hcl : g.cap.length ≤ 1000000 := by have := hO.out.2; have := hk.out; omega
                  clear hfu hke hl
                  go_wp2_with fail
                  refine (captured16 p g _ w _ H.out.at2 hcl).mono ?_
                  rintro e w2 ⟨A2, c2, rfl, H1⟩
                  go_wp2_with fail
                  refine (outs15 _ _ g.cap w2 H1.ls_rd H1.at2.ls_rd).mono ?_
                  rintro e w3 ⟨rfl, qn, rfl⟩
                  go_wp2_with fail
                  go_ret
                  exact ⟨rfl, (H1.tail.tail.tail.tail.tail.tail.drewN qn).under_old⟩
                · have hlv := StO.live hD.out.1.len hl
                  have hi := hD.out.2.1.small hlv h5n hN8 (show na + nb + N ≤ 66 by omega)
                  obtain ⟨lf, hlf⟩ : ∃ lf, tot zs = lf := ⟨_, rfl⟩
                  obtain ⟨kb, hkb⟩ : ∃ kb, keptO cm = kb := ⟨_, rfl⟩
                  obtain ⟨fb, hfb⟩ : ∃ fb, fullO cm = fb := ⟨_, rfl⟩
                  rw [hlf] at hl ⊢
                  rw [hkb, hfb]
                  have hl0 : (0 : Int) < (lf : Int) := by omega
                  have hlfm : lf ≤ na + nb + N := by rw [← hlf]; exact hD.out.2.2
                  have hwi : IntKind.i64.wrap ((i : Int) + 1) = ((i + 1 : Nat) : Int) := by rw [IntWalk.i64_in _ (by omega)]; omega
                  have hwf : IntKind.i64.wrap ((lf : Int) - 1) = ((lf - 1 : Nat) : Int) := by rw [IntWalk.i64_in _ (by omega)]; omega
                  have hi1 : decide ((1000 : Int) < (i : Int)) = false := by rw [decide_eq_false_iff_not]; omega
                  have hi2 : decide (1000 < i) = false := by rw [decide_eq_false_iff_not]; omega
                  replace hlf := Lib.hid hlf
                  replace hkb := Lib.hid hkb
                  replace hfb := Lib.hid hfb
                  replace hlv := Lib.hid hlv
                  obtain ⟨c0, hc0, hc0N, hc0m⟩ := rem_nat N hN1 (Int.natCast_nonneg i)
                  rw [Int.toNat_natCast] at hc0m
                  replace hc0m := Lib.hid hc0m
                  rcases Nat.lt_or_ge i no with hj | hj
                  · have hj0 : (0 : Int) ≤ (i : Int) := by omega
                    have hj1 : (i : Int) < (no : Int) := by omega
                    obtain ⟨x, hx⟩ : ∃ x, os[i]? = some x := ⟨_, List.getElem?_eq_getElem (by have := hol.out; omega)⟩
                    obtain ⟨hx0, hx1⟩ := u8_in (hoko x (List.mem_of_getElem? hx))
                    have hrd := hro.out.old H.out.at5
                    obtain ⟨ga, oa, rfl⟩ := hrd.some_ (by have := hol.out; omega)
                    have s0 : wr.cell? ⟨ga, oa + i, none⟩ = some (.int .u8 x) := by have := hrd.cell hx 0 rfl; simpa [Enc.num] using this
                    have hxw : IntKind.i64.wrap x = x := IntWalk.i64_in _ (by omega)
                    obtain ⟨ci, hci, hcN, hcm⟩ := rem_nat N hN1 hx0
                    have hsk : Hid (no ≤ i → ci = i % N) := fun h => by omega
                    clear hcm hx hrd hc0m
                    have hci0 : (0 : Int) ≤ (ci : Int) := by omega
                    have hci1 : (ci : Int) < (N : Int) := by omega
                    obtain ⟨z, hz⟩ : ∃ z, zs[ci]? = some z := ⟨_, List.getElem?_eq_getElem (by rw [hD.out.1.len]; exact hcN)⟩
                    obtain ⟨b, hb⟩ : ∃ b, cm[ci]? = some b := ⟨_, List.getElem?_eq_getElem (by rw [hO.out.1.len]; exact hcN)⟩
                    have hlen := RowsS.lens zs H.out.at4 z (List.mem_of_getElem? hz)
                    have zc := q_cell H.out.at3.ls_rd hz
                    have hqs := hD.out.1.all ci b z hb hz
                    have hfree := hO.out.1.free ci
                    obtain ⟨⟨A1, n1, c1⟩, fs⟩ := z
                    simp only at hlen zc hqs
                    subst hlen
                    cases fs with
                    | nil =>
                      have hst : Hid (StO zs ci) := fun z' hz' => by rw [hz] at hz'; injection hz' with hz'; rw [← hz']
                      simp only [List.length_nil] at zc
                      clear hz hb hqs
                      go_wp2_with fail
                      refine (blocked13 p g _ w _ H.out.at2 ci).mono ?_
                      rw [hfree]
                      rintro e w5 ⟨rfl, rfl⟩
                      go_wp2_with fail
                      go_roundg (1001 - (i + 1))
                      case measure => have := hk.out; omega
                      case rel => exact ⟨i + 1, cm, g, zs, by have := hk.out; omega, by rw [hkb.out], by rw [hfb.out], by rw [hlf.out], by go_num, ⟨hO.out.1, by have := hO.out.2; omega⟩, ⟨hD.out.1, hD.out.2.1.skip (fun h => by rw [← hsk.out h]; exact hst.out), hD.out.2.2⟩, H⟩
                    | cons f q =>
                      simp only [List.length_cons] at zc
                      obtain ⟨Q, foc, shut⟩ := RowsS.focus (E := EFr) (t := 31) zs ci _ hz
                      have H1 := foc H.out.at4
                      unfold zval at H1
                      simp only [List.length_cons] at H1
                      have hqz : (((q.length : Int) + 1) == 0) = false := by rw [beq_eq_false_iff_ne]; omega
                      obtain ⟨g1, o1, rfl⟩ := H1.ls_rd.some_ (by simp)
                      have hcap1 := H1.ls_rd.caps.2
                      obtain ⟨e0, e1, e2, e3, e4, e5, e6⟩ := front_cells H1.ls_rd
                      have hqp : (0 : Int) < ((q.length : Int) + 1) := by omega
                      obtain ⟨A2, hA2, hcut⟩ := cut_tail Try.prog 26 31 7 Try.underlying26 (by kernel_rfl) (some ⟨g1, o1, none⟩) q.length c1
                      have htt := tot_set zs ci _ ((A2, q.length, c1 - 1), q) hz
                      simp only [List.length_cons] at htt
                      have hlf' : Hid (tot (zs.set ci ((A2, q.length, c1 - 1), q)) = lf - 1) := by show _ = _; have := hlf.out; omega
                      have hlb : Hid (tot (zs.set ci ((A2, q.length, c1 - 1), q)) ≤ na + nb + N) := by show _ ≤ _; have := hD.out.2.2; omega
                      have hpr : Hid (PrG no N (na + nb + N) (i + 1) (tot (zs.set ci ((A2, q.length, c1 - 1), q))) (StO (zs.set ci ((A2, q.length, c1 - 1), q)))) := hD.out.2.1.pop hlv.out hN1 (by omega) hD.out.2.2
                      have hzc : Hid (∀ w' : World, RdL Enc.slc w' (.slice (some ⟨gq, 0, none⟩) N N) (zs.map (·.1)) → w'.cell? ⟨gq, ci, none⟩ = some (.slice (some ⟨g1, o1, none⟩) (q.length + 1) c1)) := fun w' h => q_cell h hz
                      have hcc : Hid (∀ w' : World, RdL Enc.flag w' (.slice (some ⟨gc, 0, none⟩) N N) cm → w'.cell? ⟨gc, ci, none⟩ = some (.bool b)) := fun w' h => by have := h.cell hb 0 rfl; simpa [Enc.flag] using this
                      have hpop := hqs.pop
                      have hql : Hid (∀ s : Slc, QS b q → QL N cm (zs.set ci (s, q))) := fun s h => hD.out.1.step ci s q b hb h
                      have hqc : Hid (∀ s : Slc, QS true q → QL N (cm.set ci true) (zs.set ci (s, q))) := fun s h => hD.out.1.come ci s q h
                      have hopen : Hid (∀ (w' : World) (bx bf : Nat) (o o2 : Obj) (vc : Value) (g' : Gt), Hs w w' [Blk bx o, GateP p g', Blk bf o2, Ls EOut 46 vc g.cap, Ls Enc.flag 4 (.slice (some ⟨gc, 0, none⟩) N N) cm, Ls Enc.slc 26 (.slice (some ⟨gq, 0, none⟩) N N) (zs.map (·.1)), RowsS EFr 31 zs, Old w] →
                          Hs w w' [Ls Enc.slc 26 (.slice (some ⟨gq, 0, none⟩) N N) (zs.map (·.1)), Ls EFr 31 (.slice A2 q.length (c1 - 1)) q, Q, Blk bx o, GateP p g', Blk bf o2, Ls EOut 46 vc g.cap, Ls Enc.flag 4 (.slice (some ⟨gc, 0, none⟩) N N) cm, Old w]) := fun w' bx bf o o2 vc g' h => by
                        have h1 := foc h.at6
                        exact (Hs.ls_tail h1 rfl rfl hA2).at7
                      have hfin : Hid (∀ (w' : World) (bx bf : Nat) (o o2 : Obj) (vc : Value) (g' : Gt), Hs w w' [Ls Enc.slc 26 (.slice (some ⟨gq, 0, none⟩) N N) ((zs.map (·.1)).set ci (A2, q.length, c1 - 1)), Ls EFr 31 (.slice A2 q.length (c1 - 1)) q, Q, Blk bx o, GateP p g', Blk bf o2, Ls EOut 46 vc g.cap, Ls Enc.flag 4 (.slice (some ⟨gc, 0, none⟩) N N) cm, Old w] →
                          Hs w w' [Ls EOut 46 vc g.cap, Ls Enc.flag 4 (.slice (some ⟨gc, 0, none⟩) N N) cm, Blk bx o, Blk bf o2, GateP p g', Ls Enc.slc 26 (.slice (some ⟨gq, 0, none⟩) N N) ((zs.set ci ((A2, q.length, c1 - 1), q)).map (·.1)), RowsS EFr 31 (zs.set ci ((A2, q.length, c1 - 1), q)), Old w]) := fun w' bx bf o o2 vc g' h => by
                        rw [List.map_set]
                        exact (by refine Hs.conseq (shut ((A2, q.length, c1 - 1), q) h.at2.at2) fun h s => ?_; refine Sep.pickc (by first | with_reducible exact s | with_reducible exact s.at1 | with_reducible exact s.at2 | with_reducible exact s.at3 | with_reducible exact s.at4 | with_reducible exact s.at5 | with_reducible exact s.at6 | with_reducible exact s.at7) (fun h s => ?_); refine Sep.pickc (by first | with_reducible exact s | with_reducible exact s.at1 | with_reducible exact s.at2 | with_reducible exact s.at3 | with_reducible exact s.at4 | with_reducible exact s.at5 | with_reducible exact s.at6 | with_reducible exact s.at7) (fun h s => ?_); refine Sep.pickc (by first | with_reducible exact s | with_reducible exact s.at1 | with_reducible exact s.at2 | with_reducible exact s.at3 | with_reducible exact s.at4 | with_reducible exact s.at5 | with_reducible exact s.at6 | with_reducible exact s.at7) (fun h s => ?_); refine Sep.pickc (by first | with_reducible exact s | with_reducible exact s.at1 | with_reducible exact s.at2 | with_reducible exact s.at3 | with_reducible exact s.at4 | with_reducible exact s.at5 | with_reducible exact s.at6 | with_reducible exact s.at7) (fun h s => ?_); refine Sep.pickc (by first | with_reducible exact s | with_reducible exact s.at1 | with_reducible exact s.at2 | with_reducible exact s.at3 | with_reducible exact s.at4 | with_reducible exact s.at5 | with_reducible exact s.at6 | with_reducible exact s.at7) (fun h s => ?_); refine Sep.pickc (by first | with_reducible exact s | with_reducible exact s.at1 | with_reducible exact s.at2 | with_reducible exact s.at3 | with_reducible exact s.at4 | with_reducible exact s.at5 | with_reducible exact s.at6 | with_reducible exact s.at7) (fun h s => ?_); refine Sep.pickc (by first | with_reducible exact s | with_reducible exact s.at1 | with_reducible exact s.at2 | with_reducible exact s.at3 | with_reducible exact s.at4 | with_reducible exact s.at5 | with_reducible exact s.at6 | with_reducible exact s.at7) (fun h s => ?_); refine Sep.pickc (by first | with_reducible exact s | with_reducible exact s.at1 | with_reducible exact s.at2 | with_reducible exact s.at3 | with_reducible exact s.at4 | with_reducible exact s.at5 | with_reducible exact s.at6 | with_reducible exact s.at7) (fun h s => ?_); trivial)
                      have hstep : Hid (∃ g' x, g.take (ci : Int) f = (g', x, 0) ∧ ((((f.1 == 3) = false) ∧ (x.1 == 3) = false ∧ x.2.2.2.2 = 0 ∧ Ov N cm g' ∧ g'.cap = (if keptO cm && !b then g.cap ++ [((ci : Int), f)] else g.cap) ∧ QS b q) ∨
                          (b = false ∧ f = barF 9 true ∧ QS true q ∧ (x.1 == 3) = !keptO cm ∧ (x.2.2.2.2 == 9) = fullO (cm.set ci true) ∧ Ov N (cm.set ci true) g' ∧ g'.cap = g.cap ∧ keptO (cm.set ci true) = true ∧ fullO cm = false))) := by
                        rcases hpop with ⟨h1, h2⟩ | ⟨h1, h2, h3⟩
                        · obtain ⟨g', x, k1, k2, k3, k4, k5⟩ := hO.out.1.data ci b hb f h1
                          exact ⟨g', x, k1, .inl ⟨by rw [beq_eq_false_iff_ne]; omega, k2, k3, k4, k5, h2⟩⟩
                        · rw [h1] at hb
                          obtain ⟨g', x, k1, k2, k3, k4, k5, k6, k7⟩ := hO.out.1.bar ci hb
                          exact ⟨g', x, by rw [h2]; exact k1, .inr ⟨h1, h2, h3, k2, k3, k4, k5, k6, k7⟩⟩
                      obtain ⟨g', x, ht, hcase⟩ := hstep.out
                      replace ht := Lib.hid ht
                      replace hcase := Lib.hid hcase
                      obtain ⟨f0, ⟨f1, f2, f3⟩, f4, f5, f6⟩ := f
                      obtain ⟨x0, ⟨x1, x2, x3⟩, x4, x5, x6⟩ := x
                      simp only at e0 e1 e2 e3 e4 e5 e6 hcase
                      have hcl : Hid (g.cap.length ≤ 1000000) := by show _ ≤ _; have := hO.out.2; omega
                      clear hz hb hqs foc shut hA2 H1 hpop hstep htt
                      go_wp2_with fail
                      refine (blocked13 p g _ w _ H.out.at2 ci).mono ?_
                      rw [hfree]
                      rintro e w5 ⟨rfl, rfl⟩
                      clear hfree
                      go_upto_region 39 with (fail)
                      have H2 := Lib.hid (H.out.alloc (.cells #[.int .i64 f0, .int .i64 f1, .int .i64 f2, .int .i64 f3, .int .i64 f4, .int .u64 f5, .bool f6] 31)).at3
                      clear H e0 e1 e2 e3 e4 e5 e6 zc
                      generalize hsz : wr.heap.size = bf at H2 ⊢
                      clear hsz
                      generalize World.alloc _ _ = w4 at H2 ⊢
                      have i0 : w4.cell? ⟨bf, 0, none⟩ = some (.int .i64 f0) := H2.out.at1.cellOf 0 rfl
                      have i1 : w4.cell? ⟨bf, 1, none⟩ = some (.int .i64 f1) := H2.out.at1.cellOf 1 rfl
                      have i2 : w4.cell? ⟨bf, 2, none⟩ = some (.int .i64 f2) := H2.out.at1.cellOf 2 rfl
                      have i3 : w4.cell? ⟨bf, 3, none⟩ = some (.int .i64 f3) := H2.out.at1.cellOf 3 rfl
                      have i4 : w4.cell? ⟨bf, 4, none⟩ = some (.int .i64 f4) := H2.out.at1.cellOf 4 rfl
                      have i5 : w4.cell? ⟨bf, 5, none⟩ = some (.int .u64 f5) := H2.out.at1.cellOf 5 rfl
                      have i6 : w4.cell? ⟨bf, 6, none⟩ = some (.bool f6) := H2.out.at1.cellOf 6 rfl
                      go_wp2_with fail
                      refine (takes p g N ci _ _ w _ H2.out hO.out.1.ok hcl.out _ _ _ ht.out).mono ?_
                      rintro e w3 ⟨rfl, H3⟩
                      clear H2 i0 i1 i2 i3 i4 i5 i6
                      simp only [stv]
                      go_upto_region 40 with (fail)
                      have H4 := hopen.out _ _ _ _ _ _ _ (H3.alloc (.cells #[.int .i64 x0, .int .i64 x1, .int .i64 x2, .int .i64 x3, .int .i64 x4, .int .u64 x5, .int .u64 x6] 38))
                      clear H3 hopen
                      generalize hsz : w3.heap.size = bx at H4 ⊢
                      clear hsz
                      generalize World.alloc _ _ = w5 at H4 ⊢
                      have zc := hzc.out _ H4.ls_rd
                      have fz := H4.ls_frozen ci
                      have H5 := Lib.hid (H4.ls_set0 rfl ci hcN (A2, q.length, c1 - 1) (.slice A2 q.length (c1 - 1)) rfl)
                      clear H4 hzc
                      go_upto_region 41 with (fail)
                      generalize World.setCell w5 _ _ = w6 at H5 ⊢
                      clear zc fz hcut
                      have H6 := Lib.hid (hfin.out _ _ _ _ _ _ _ H5.out)
                      clear H5 hfin
                      have b0 : w6.cell? ⟨bx, 0, none⟩ = some (.int .i64 x0) := H6.out.at2.cellOf 0 rfl
                      have b6 : w6.cell? ⟨bx, 6, none⟩ = some (.int .u64 x6) := H6.out.at2.cellOf 6 rfl
                      have i0 : w6.cell? ⟨bf, 0, none⟩ = some (.int .i64 f0) := H6.out.at3.cellOf 0 rfl
                      have cc := hcc.out _ H6.out.at1.ls_rd
                      rcases hcase.out with ⟨d1, d2, d3, d4, d5, d6⟩ | ⟨d0, d1, d2, d3, d4, d5, d6, d7, d8⟩
                      · rw [hkb.out] at d5
                        subst d3
                        have hO' : Hid (Ov N cm g') := d4
                        replace d6 := Lib.hid d6
                        clear d4 hcase
                        cases kb with
                        | false =>
                          simp only [Bool.false_and, Bool.false_eq_true, if_false] at d5
                          replace d5 := Lib.hid d5
                          go_wp2_with fail
                          go_roundg (1001 - (i + 1))
                          case measure => have := hk.out; omega
                          case rel => exact ⟨i + 1, cm, g', _, by have := hk.out; omega, by rw [hkb.out], by rw [hfb.out], by rw [hlf'.out], by go_num, ⟨hO'.out, by have := hO.out.2; have := d5.out; rw [this]; omega⟩, ⟨hql.out _ d6.out, hpr.out, hlb.out⟩, by rw [d5.out]; exact Lib.hid (by refine Hs.conseq (H6.out) fun h s => ?_; refine Sep.pickc (by first | with_reducible exact s | with_reducible exact s.at1 | with_reducible exact s.at2 | with_reducible exact s.at3 | with_reducible exact s.at4 | with_reducible exact s.at5 | with_reducible exact s.at6 | with_reducible exact s.at7) (fun h s => ?_); refine Sep.pickc (by first | with_reducible exact s | with_reducible exact s.at1 | with_reducible exact s.at2 | with_reducible exact s.at3 | with_reducible exact s.at4 | with_reducible exact s.at5 | with_reducible exact s.at6 | with_reducible exact s.at7) (fun h s => ?_); refine Sep.pickc (by first | with_reducible exact s | with_reducible exact s.at1 | with_reducible exact s.at2 | with_reducible exact s.at3 | with_reducible exact s.at4 | with_reducible exact s.at5 | with_reducible exact s.at6 | with_reducible exact s.at7) (fun h s => ?_); refine Sep.pickc (by first | with_reducible exact s | with_reducible exact s.at1 | with_reducible exact s.at2 | with_reducible exact s.at3 | with_reducible exact s.at4 | with_reducible exact s.at5 | with_reducible exact s.at6 | with_reducible exact s.at7) (fun h s => ?_); refine Sep.pickc (by first | with_reducible exact s | with_reducible exact s.at1 | with_reducible exact s.at2 | with_reducible exact s.at3 | with_reducible exact s.at4 | with_reducible exact s.at5 | with_reducible exact s.at6 | with_reducible exact s.at7) (fun h s => ?_); refine Sep.pickc (by first | with_reducible exact s | with_reducible exact s.at1 | with_reducible exact s.at2 | with_reducible exact s.at3 | with_reducible exact s.at4 | with_reducible exact s.at5 | with_reducible exact s.at6 | with_reducible exact s.at7) (fun h s => ?_); trivial)⟩
                        | true =>
                          cases b with
                          | true =>
                            simp only [Bool.not_true, Bool.and_false, Bool.false_eq_true, if_false] at d5
                            replace d5 := Lib.hid d5
                            go_wp2_with fail
                            go_roundg (1001 - (i + 1))
                            case measure => have := hk.out; omega
                            case rel => exact ⟨i + 1, cm, g', _, by have := hk.out; omega, by rw [hkb.out], by rw [hfb.out], by rw [hlf'.out], by go_num, ⟨hO'.out, by have := hO.out.2; have := d5.out; rw [this]; omega⟩, ⟨hql.out _ d6.out, hpr.out, hlb.out⟩, by rw [d5.out]; exact Lib.hid (by refine Hs.conseq (H6.out) fun h s => ?_; refine Sep.pickc (by first | with_reducible exact s | with_reducible exact s.at1 | with_reducible exact s.at2 | with_reducible exact s.at3 | with_reducible exact s.at4 | with_reducible exact s.at5 | with_reducible exact s.at6 | with_reducible exact s.at7) (fun h s => ?_); refine Sep.pickc (by first | with_reducible exact s | with_reducible exact s.at1 | with_reducible exact s.at2 | with_reducible exact s.at3 | with_reducible exact s.at4 | with_reducible exact s.at5 | with_reducible exact s.at6 | with_reducible exact s.at7) (fun h s => ?_); refine Sep.pickc (by first | with_reducible exact s | with_reducible exact s.at1 | with_reducible exact s.at2 | with_reducible exact s.at3 | with_reducible exact s.at4 | with_reducible exact s.at5 | with_reducible exact s.at6 | with_reducible exact s.at7) (fun h s => ?_); refine Sep.pickc (by first | with_reducible exact s | with_reducible exact s.at1 | with_reducible exact s.at2 | with_reducible exact s.at3 | with_reducible exact s.at4 | with_reducible exact s.at5 | with_reducible exact s.at6 | with_reducible exact s.at7) (fun h s => ?_); refine Sep.pickc (by first | with_reducible exact s | with_reducible exact s.at1 | with_reducible exact s.at2 | with_reducible exact s.at3 | with_reducible exact s.at4 | with_reducible exact s.at5 | with_reducible exact s.at6 | with_reducible exact s.at7) (fun h s => ?_); refine Sep.pickc (by first | with_reducible exact s | with_reducible exact s.at1 | with_reducible exact s.at2 | with_reducible exact s.at3 | with_reducible exact s.at4 | with_reducible exact s.at5 | with_reducible exact s.at6 | with_reducible exact s.at7) (fun h s => ?_); trivial)⟩
                          | false =>
                            simp only [Bool.not_false, Bool.and_true, if_true] at d5
                            replace d5 := Lib.hid d5
                            have i1 : w6.cell? ⟨bf, 1, none⟩ = some (.int .i64 f1) := H6.out.at3.cellOf 1 rfl
                            have i2 : w6.cell? ⟨bf, 2, none⟩ = some (.int .i64 f2) := H6.out.at3.cellOf 2 rfl
                            have i3 : w6.cell? ⟨bf, 3, none⟩ = some (.int .i64 f3) := H6.out.at3.cellOf 3 rfl
                            have i4 : w6.cell? ⟨bf, 4, none⟩ = some (.int .i64 f4) := H6.out.at3.cellOf 4 rfl
                            have i5 : w6.cell? ⟨bf, 5, none⟩ = some (.int .u64 f5) := H6.out.at3.cellOf 5 rfl
                            have i6 : w6.cell? ⟨bf, 6, none⟩ = some (.bool f6) := H6.out.at3.cellOf 6 rfl
                            have hclb : Hid ((g.cap.length + 1) * 64 ≤ 140737488355328) := by show _ ≤ _; have := hcl.out; omega
                            go_wp2_with (at_builtin; refine wpList_append1L (E := EOut) rfl (.tmp 212) (.tmp 216) 43 rfl 46 _ 8 64 Try.underlying43 infoO rfl (by decide) (by decide) rfl rfl rfl H6.out ((ci : Int), f0, (f1, f2, f3), f4, f5, f6) hclb.out ?_)
                            intro A7 c7 w7 H7
                            rw [show g.cap ++ [((ci : Int), f0, (f1, f2, f3), f4, f5, f6)] = g'.cap from d5.out.symm] at H7
                            have hcn : Hid (g'.cap.length = g.cap.length + 1) := by show _ = _; rw [d5.out]; simp
                            replace H7 := Lib.hid H7
                            clear b0 b6 i0 i1 i2 i3 i4 i5 i6 cc H6
                            have b6 : w7.cell? ⟨bx, 6, none⟩ = some (.int .u64 0) := H7.out.at2.cellOf 6 rfl
                            go_wp2_with fail
                            go_roundg (1001 - (i + 1))
                            case measure => have := hk.out; omega
                            case rel => exact ⟨i + 1, cm, g', _, by have := hk.out; omega, by rw [hkb.out], by rw [hfb.out], by rw [hlf'.out], by go_num, ⟨hO'.out, by have := hO.out.2; have := hcn.out; omega⟩, ⟨hql.out _ d6.out, hpr.out, hlb.out⟩, by rw [List.map_set]; exact Lib.hid (by refine Hs.conseq (H7.out) fun h s => ?_; refine Sep.pickc (by first | with_reducible exact s | with_reducible exact s.at1 | with_reducible exact s.at2 | with_reducible exact s.at3 | with_reducible exact s.at4 | with_reducible exact s.at5 | with_reducible exact s.at6 | with_reducible exact s.at7) (fun h s => ?_); refine Sep.pickc (by first | with_reducible exact s | with_reducible exact s.at1 | with_reducible exact s.at2 | with_reducible exact s.at3 | with_reducible exact s.at4 | with_reducible exact s.at5 | with_reducible exact s.at6 | with_reducible exact s.at7) (fun h s => ?_); refine Sep.pickc (by first | with_reducible exact s | with_reducible exact s.at1 | with_reducible exact s.at2 | with_reducible exact s.at3 | with_reducible exact s.at4 | with_reducible exact s.at5 | with_reducible exact s.at6 | with_reducible exact s.at7) (fun h s => ?_); refine Sep.pickc (by first | with_reducible exact s | with_reducible exact s.at1 | with_reducible exact s.at2 | with_reducible exact s.at3 | with_reducible exact s.at4 | with_reducible exact s.at5 | with_reducible exact s.at6 | with_reducible exact s.at7) (fun h s => ?_); refine Sep.pickc (by first | with_reducible exact s | with_reducible exact s.at1 | with_reducible exact s.at2 | with_reducible exact s.at3 | with_reducible exact s.at4 | with_reducible exact s.at5 | with_reducible exact s.at6 | with_reducible exact s.at7) (fun h s => ?_); refine Sep.pickc (by first | with_reducible exact s | with_reducible exact s.at1 | with_reducible exact s.at2 | with_reducible exact s.at3 | with_reducible exact s.at4 | with_reducible exact s.at5 | with_reducible exact s.at6 | with_reducible exact s.at7) (fun h s => ?_); trivial)⟩
                      · subst d0
                        simp only [barF, Prod.mk.injEq] at d1
                        obtain ⟨rfl, ⟨rfl, rfl, rfl⟩, rfl, rfl, rfl⟩ := d1
                        rw [hkb.out] at d3
                        rw [hfb.out] at d8
                        subst d8
                        have hO' : Hid (Ov N (cm.set ci true) g') := d5
                        replace d6 := Lib.hid d6
                        replace d7 := Lib.hid d7
                        replace d2 := Lib.hid d2
                        have fc := H6.out.at1.ls_frozen ci
                        have H7 := Lib.hid (H6.out.at1.ls_set0 rfl ci hcN true (.bool true) rfl)
                        clear d5 hcase H6
                        obtain ⟨fn, hfn⟩ : ∃ fn, fullO (cm.set ci true) = fn := ⟨_, rfl⟩
                        rw [hfn] at d4
                        replace hfn := Lib.hid hfn
                        cases kb <;> simp only [Bool.not_false, Bool.not_true] at d3 <;> cases fn
                        all_goals
                          go_upto_region 45 with (fail)
                          generalize World.setCell w6 _ _ = w7 at H7 ⊢
                          clear b0 b6 i0 cc fc
                          have b0 : w7.cell? ⟨bx, 0, none⟩ = some (.int .i64 x0) := H7.out.at2.cellOf 0 rfl
                          have b6 : w7.cell? ⟨bx, 6, none⟩ = some (.int .u64 x6) := H7.out.at2.cellOf 6 rfl
                          go_wp2_with fail
                          go_roundg (1001 - (i + 1))
                          case measure => have := hk.out; omega
                          case rel => exact ⟨i + 1, cm.set ci true, g', _, by have := hk.out; omega, by rw [d7.out], by rw [hfn.out], by rw [hlf'.out], by go_num, ⟨hO'.out, by have := hO.out.2; have := d6.out; rw [this]; omega⟩, ⟨hqc.out _ d2.out, hpr.out, hlb.out⟩, by rw [d6.out]; exact Lib.hid (by refine Hs.conseq (H7.out) fun h s => ?_; refine Sep.pickc (by first | with_reducible exact s | with_reducible exact s.at1 | with_reducible exact s.at2 | with_reducible exact s.at3 | with_reducible exact s.at4 | with_reducible exact s.at5 | with_reducible exact s.at6 | with_reducible exact s.at7) (fun h s => ?_); refine Sep.pickc (by first | with_reducible exact s | with_reducible exact s.at1 | with_reducible exact s.at2 | with_reducible exact s.at3 | with_reducible exact s.at4 | with_reducible exact s.at5 | with_reducible exact s.at6 | with_reducible exact s.at7) (fun h s => ?_); refine Sep.pickc (by first | with_reducible exact s | with_reducible exact s.at1 | with_reducible exact s.at2 | with_reducible exact s.at3 | with_reducible exact s.at4 | with_reducible exact s.at5 | with_reducible exact s.at6 | with_reducible exact s.at7) (fun h s => ?_); refine Sep.pickc (by first | with_reducible exact s | with_reducible exact s.at1 | with_reducible exact s.at2 | with_reducible exact s.at3 | with_reducible exact s.at4 | with_reducible exact s.at5 | with_reducible exact s.at6 | with_reducible exact s.at7) (fun h s => ?_); refine Sep.pickc (by first | with_reducible exact s | with_reducible exact s.at1 | with_reducible exact s.at2 | with_reducible exact s.at3 | with_reducible exact s.at4 | with_reducible exact s.at5 | with_reducible exact s.at6 | with_reducible exact s.at7) (fun h s => ?_); refine Sep.pickc (by first | with_reducible exact s | with_reducible exact s.at1 | with_reducible exact s.at2 | with_reducible exact s.at3 | with_reducible exact s.at4 | with_reducible exact s.at5 | with_reducible exact s.at6 | with_reducible exact s.at7) (fun h s => ?_); trivial)⟩

                  · have hj1 : decide ((i : Int) < (no : Int)) = false := by rw [decide_eq_false_iff_not]; omega
                    have hj2 : decide (i < no) = false := by rw [decide_eq_false_iff_not]; omega
                    have hsk : Hid (no ≤ i → c0 = i % N) := fun _ => hc0m.out
                    clear hc0m hj
                    obtain ⟨ci, hcc⟩ : ∃ ci, ci = c0 := ⟨_, rfl⟩
                    have hcN := hc0N
                    rw [← hcc] at hsk hc0 hcN
                    clear hc0N hcc c0
                    have hci0 : (0 : Int) ≤ (ci : Int) := by omega
                    have hci1 : (ci : Int) < (N : Int) := by omega
                    obtain ⟨z, hz⟩ : ∃ z, zs[ci]? = some z := ⟨_, List.getElem?_eq_getElem (by rw [hD.out.1.len]; exact hcN)⟩
                    obtain ⟨b, hb⟩ : ∃ b, cm[ci]? = some b := ⟨_, List.getElem?_eq_getElem (by rw [hO.out.1.len]; exact hcN)⟩
                    have hlen := RowsS.lens zs H.out.at4 z (List.mem_of_getElem? hz)
                    have zc := q_cell H.out.at3.ls_rd hz
                    have hqs := hD.out.1.all ci b z hb hz
                    have hfree := hO.out.1.free ci
                    obtain ⟨⟨A1, n1, c1⟩, fs⟩ := z
                    simp only at hlen zc hqs
                    subst hlen
                    cases fs with
                    | nil =>
                      have hst : Hid (StO zs ci) := fun z' hz' => by rw [hz] at hz'; injection hz' with hz'; rw [← hz']
                      simp only [List.length_nil] at zc
                      clear hz hb hqs
                      go_wp2_with fail
                      refine (blocked13 p g _ w _ H.out.at2 ci).mono ?_
                      rw [hfree]
                      rintro e w5 ⟨rfl, rfl⟩
                      go_wp2_with fail
                      go_roundg (1001 - (i + 1))
                      case measure => have := hk.out; omega
                      case rel => exact ⟨i + 1, cm, g, zs, by have := hk.out; omega, by rw [hkb.out], by rw [hfb.out], by rw [hlf.out], by go_num, ⟨hO.out.1, by have := hO.out.2; omega⟩, ⟨hD.out.1, hD.out.2.1.skip (fun h => by rw [← hsk.out h]; exact hst.out), hD.out.2.2⟩, H⟩
                    | cons f q =>
                      simp only [List.length_cons] at zc
                      obtain ⟨Q, foc, shut⟩ := RowsS.focus (E := EFr) (t := 31) zs ci _ hz
                      have H1 := foc H.out.at4
                      unfold zval at H1
                      simp only [List.length_cons] at H1
                      have hqz : (((q.length : Int) + 1) == 0) = false := by rw [beq_eq_false_iff_ne]; omega
                      obtain ⟨g1, o1, rfl⟩ := H1.ls_rd.some_ (by simp)
                      have hcap1 := H1.ls_rd.caps.2
                      obtain ⟨e0, e1, e2, e3, e4, e5, e6⟩ := front_cells H1.ls_rd
                      have hqp : (0 : Int) < ((q.length : Int) + 1) := by omega
                      obtain ⟨A2, hA2, hcut⟩ := cut_tail Try.prog 26 31 7 Try.underlying26 (by kernel_rfl) (some ⟨g1, o1, none⟩) q.length c1
                      have htt := tot_set zs ci _ ((A2, q.length, c1 - 1), q) hz
                      simp only [List.length_cons] at htt
                      have hlf' : Hid (tot (zs.set ci ((A2, q.length, c1 - 1), q)) = lf - 1) := by show _ = _; have := hlf.out; omega
                      have hlb : Hid (tot (zs.set ci ((A2, q.length, c1 - 1), q)) ≤ na + nb + N) := by show _ ≤ _; have := hD.out.2.2; omega
                      have hpr : Hid (PrG no N (na + nb + N) (i + 1) (tot (zs.set ci ((A2, q.length, c1 - 1), q))) (StO (zs.set ci ((A2, q.length, c1 - 1), q)))) := hD.out.2.1.pop hlv.out hN1 (by omega) hD.out.2.2
                      have hzc : Hid (∀ w' : World, RdL Enc.slc w' (.slice (some ⟨gq, 0, none⟩) N N) (zs.map (·.1)) → w'.cell? ⟨gq, ci, none⟩ = some (.slice (some ⟨g1, o1, none⟩) (q.length + 1) c1)) := fun w' h => q_cell h hz
                      have hcc : Hid (∀ w' : World, RdL Enc.flag w' (.slice (some ⟨gc, 0, none⟩) N N) cm → w'.cell? ⟨gc, ci, none⟩ = some (.bool b)) := fun w' h => by have := h.cell hb 0 rfl; simpa [Enc.flag] using this
                      have hpop := hqs.pop
                      have hql : Hid (∀ s : Slc, QS b q → QL N cm (zs.set ci (s, q))) := fun s h => hD.out.1.step ci s q b hb h
                      have hqc : Hid (∀ s : Slc, QS true q → QL N (cm.set ci true) (zs.set ci (s, q))) := fun s h => hD.out.1.come ci s q h
                      have hopen : Hid (∀ (w' : World) (bx bf : Nat) (o o2 : Obj) (vc : Value) (g' : Gt), Hs w w' [Blk bx o, GateP p g', Blk bf o2, Ls EOut 46 vc g.cap, Ls Enc.flag 4 (.slice (some ⟨gc, 0, none⟩) N N) cm, Ls Enc.slc 26 (.slice (some ⟨gq, 0, none⟩) N N) (zs.map (·.1)), RowsS EFr 31 zs, Old w] →
                          Hs w w' [Ls Enc.slc 26 (.slice (some ⟨gq, 0, none⟩) N N) (zs.map (·.1)), Ls EFr 31 (.slice A2 q.length (c1 - 1)) q, Q, Blk bx o, GateP p g', Blk bf o2, Ls EOut 46 vc g.cap, Ls Enc.flag 4 (.slice (some ⟨gc, 0, none⟩) N N) cm, Old w]) := fun w' bx bf o o2 vc g' h => by
                        have h1 := foc h.at6
                        exact (Hs.ls_tail h1 rfl rfl hA2).at7
                      have hfin : Hid (∀ (w' : World) (bx bf : Nat) (o o2 : Obj) (vc : Value) (g' : Gt), Hs w w' [Ls Enc.slc 26 (.slice (some ⟨gq, 0, none⟩) N N) ((zs.map (·.1)).set ci (A2, q.length, c1 - 1)), Ls EFr 31 (.slice A2 q.length (c1 - 1)) q, Q, Blk bx o, GateP p g', Blk bf o2, Ls EOut 46 vc g.cap, Ls Enc.flag 4 (.slice (some ⟨gc, 0, none⟩) N N) cm, Old w] →
                          Hs w w' [Ls EOut 46 vc g.cap, Ls Enc.flag 4 (.slice (some ⟨gc, 0, none⟩) N N) cm, Blk bx o, Blk bf o2, GateP p g', Ls Enc.slc 26 (.slice (some ⟨gq, 0, none⟩) N N) ((zs.set ci ((A2, q.length, c1 - 1), q)).map (·.1)), RowsS EFr 31 (zs.set ci ((A2, q.length, c1 - 1), q)), Old w]) := fun w' bx bf o o2 vc g' h => by
                        rw [List.map_set]
                        exact (by refine Hs.conseq (shut ((A2, q.length, c1 - 1), q) h.at2.at2) fun h s => ?_; refine Sep.pickc (by first | with_reducible exact s | with_reducible exact s.at1 | with_reducible exact s.at2 | with_reducible exact s.at3 | with_reducible exact s.at4 | with_reducible exact s.at5 | with_reducible exact s.at6 | with_reducible exact s.at7) (fun h s => ?_); refine Sep.pickc (by first | with_reducible exact s | with_reducible exact s.at1 | with_reducible exact s.at2 | with_reducible exact s.at3 | with_reducible exact s.at4 | with_reducible exact s.at5 | with_reducible exact s.at6 | with_reducible exact s.at7) (fun h s => ?_); refine Sep.pickc (by first | with_reducible exact s | with_reducible exact s.at1 | with_reducible exact s.at2 | with_reducible exact s.at3 | with_reducible exact s.at4 | with_reducible exact s.at5 | with_reducible exact s.at6 | with_reducible exact s.at7) (fun h s => ?_); refine Sep.pickc (by first | with_reducible exact s | with_reducible exact s.at1 | with_reducible exact s.at2 | with_reducible exact s.at3 | with_reducible exact s.at4 | with_reducible exact s.at5 | with_reducible exact s.at6 | with_reducible exact s.at7) (fun h s => ?_); refine Sep.pickc (by first | with_reducible exact s | with_reducible exact s.at1 | with_reducible exact s.at2 | with_reducible exact s.at3 | with_reducible exact s.at4 | with_reducible exact s.at5 | with_reducible exact s.at6 | with_reducible exact s.at7) (fun h s => ?_); refine Sep.pickc (by first | with_reducible exact s | with_reducible exact s.at1 | with_reducible exact s.at2 | with_reducible exact s.at3 | with_reducible exact s.at4 | with_reducible exact s.at5 | with_reducible exact s.at6 | with_reducible exact s.at7) (fun h s => ?_); refine Sep.pickc (by first | with_reducible exact s | with_reducible exact s.at1 | with_reducible exact s.at2 | with_reducible exact s.at3 | with_reducible exact s.at4 | with_reducible exact s.at5 | with_reducible exact s.at6 | with_reducible exact s.at7) (fun h s => ?_); refine Sep.pickc (by first | with_reducible exact s | with_reducible exact s.at1 | with_reducible exact s.at2 | with_reducible exact s.at3 | with_reducible exact s.at4 | with_reducible exact s.at5 | with_reducible exact s.at6 | with_reducible exact s.at7) (fun h s => ?_); trivial)
                      have hstep : Hid (∃ g' x, g.take (ci : Int) f = (g', x, 0) ∧ ((((f.1 == 3) = false) ∧ (x.1 == 3) = false ∧ x.2.2.2.2 = 0 ∧ Ov N cm g' ∧ g'.cap = (if keptO cm && !b then g.cap ++ [((ci : Int), f)] else g.cap) ∧ QS b q) ∨
                          (b = false ∧ f = barF 9 true ∧ QS true q ∧ (x.1 == 3) = !keptO cm ∧ (x.2.2.2.2 == 9) = fullO (cm.set ci true) ∧ Ov N (cm.set ci true) g' ∧ g'.cap = g.cap ∧ keptO (cm.set ci true) = true ∧ fullO cm = false))) := by
                        rcases hpop with ⟨h1, h2⟩ | ⟨h1, h2, h3⟩
                        · obtain ⟨g', x, k1, k2, k3, k4, k5⟩ := hO.out.1.data ci b hb f h1
                          exact ⟨g', x, k1, .inl ⟨by rw [beq_eq_false_iff_ne]; omega, k2, k3, k4, k5, h2⟩⟩
                        · rw [h1] at hb
                          obtain ⟨g', x, k1, k2, k3, k4, k5, k6, k7⟩ := hO.out.1.bar ci hb
                          exact ⟨g', x, by rw [h2]; exact k1, .inr ⟨h1, h2, h3, k2, k3, k4, k5, k6, k7⟩⟩
                      obtain ⟨g', x, ht, hcase⟩ := hstep.out
                      replace ht := Lib.hid ht
                      replace hcase := Lib.hid hcase
                      obtain ⟨f0, ⟨f1, f2, f3⟩, f4, f5, f6⟩ := f
                      obtain ⟨x0, ⟨x1, x2, x3⟩, x4, x5, x6⟩ := x
                      simp only at e0 e1 e2 e3 e4 e5 e6 hcase
                      have hcl : Hid (g.cap.length ≤ 1000000) := by show _ ≤ _; have := hO.out.2; omega
                      clear hz hb hqs foc shut hA2 H1 hpop hstep htt
                      go_wp2_with fail
                      refine (blocked13 p g _ w _ H.out.at2 ci).mono ?_
                      rw [hfree]
                      rintro e w5 ⟨rfl, rfl⟩
                      clear hfree
                      go_upto_region 39 with (fail)
                      have H2 := Lib.hid (H.out.alloc (.cells #[.int .i64 f0, .int .i64 f1, .int .i64 f2, .int .i64 f3, .int .i64 f4, .int .u64 f5, .bool f6] 31)).at3
                      clear H e0 e1 e2 e3 e4 e5 e6 zc
                      generalize hsz : wr.heap.size = bf at H2 ⊢
                      clear hsz
                      generalize World.alloc _ _ = w4 at H2 ⊢
                      have i0 : w4.cell? ⟨bf, 0, none⟩ = some (.int .i64 f0) := H2.out.at1.cellOf 0 rfl
                      have i1 : w4.cell? ⟨bf, 1, none⟩ = some (.int .i64 f1) := H2.out.at1.cellOf 1 rfl
                      have i2 : w4.cell? ⟨bf, 2, none⟩ = some (.int .i64 f2) := H2.out.at1.cellOf 2 rfl
                      have i3 : w4.cell? ⟨bf, 3, none⟩ = some (.int .i64 f3) := H2.out.at1.cellOf 3 rfl
                      have i4 : w4.cell? ⟨bf, 4, none⟩ = some (.int .i64 f4) := H2.out.at1.cellOf 4 rfl
                      have i5 : w4.cell? ⟨bf, 5, none⟩ = some (.int .u64 f5) := H2.out.at1.cellOf 5 rfl
                      have i6 : w4.cell? ⟨bf, 6, none⟩ = some (.bool f6) := H2.out.at1.cellOf 6 rfl
                      go_wp2_with fail
                      refine (takes p g N ci _ _ w _ H2.out hO.out.1.ok hcl.out _ _ _ ht.out).mono ?_
                      rintro e w3 ⟨rfl, H3⟩
                      clear H2 i0 i1 i2 i3 i4 i5 i6
                      simp only [stv]
                      go_upto_region 40 with (fail)
                      have H4 := hopen.out _ _ _ _ _ _ _ (H3.alloc (.cells #[.int .i64 x0, .int .i64 x1, .int .i64 x2, .int .i64 x3, .int .i64 x4, .int .u64 x5, .int .u64 x6] 38))
                      clear H3 hopen
                      generalize hsz : w3.heap.size = bx at H4 ⊢
                      clear hsz
                      generalize World.alloc _ _ = w5 at H4 ⊢
                      have zc := hzc.out _ H4.ls_rd
                      have fz := H4.ls_frozen ci
                      have H5 := Lib.hid (H4.ls_set0 rfl ci hcN (A2, q.length, c1 - 1) (.slice A2 q.length (c1 - 1)) rfl)
                      clear H4 hzc
                      go_upto_region 41 with (fail)
                      generalize World.setCell w5 _ _ = w6 at H5 ⊢
                      clear zc fz hcut
                      have H6 := Lib.hid (hfin.out _ _ _ _ _ _ _ H5.out)
                      clear H5 hfin
                      have b0 : w6.cell? ⟨bx, 0, none⟩ = some (.int .i64 x0) := H6.out.at2.cellOf 0 rfl
                      have b6 : w6.cell? ⟨bx, 6, none⟩ = some (.int .u64 x6) := H6.out.at2.cellOf 6 rfl
                      have i0 : w6.cell? ⟨bf, 0, none⟩ = some (.int .i64 f0) := H6.out.at3.cellOf 0 rfl
                      have cc := hcc.out _ H6.out.at1.ls_rd
                      rcases hcase.out with ⟨d1, d2, d3, d4, d5, d6⟩ | ⟨d0, d1, d2, d3, d4, d5, d6, d7, d8⟩
                      · rw [hkb.out] at d5
                        subst d3
                        have hO' : Hid (Ov N cm g') := d4
                        replace d6 := Lib.hid d6
                        clear d4 hcase
                        cases kb with
                        | false =>
                          simp only [Bool.false_and, Bool.false_eq_true, if_false] at d5
                          replace d5 := Lib.hid d5
                          go_wp2_with fail
                          go_roundg (1001 - (i + 1))
                          case measure => have := hk.out; omega
                          case rel => exact ⟨i + 1, cm, g', _, by have := hk.out; omega, by rw [hkb.out], by rw [hfb.out], by rw [hlf'.out], by go_num, ⟨hO'.out, by have := hO.out.2; have := d5.out; rw [this]; omega⟩, ⟨hql.out _ d6.out, hpr.out, hlb.out⟩, by rw [d5.out]; exact Lib.hid (by refine Hs.conseq (H6.out) fun h s => ?_; refine Sep.pickc (by first | with_reducible exact s | with_reducible exact s.at1 | with_reducible exact s.at2 | with_reducible exact s.at3 | with_reducible exact s.at4 | with_reducible exact s.at5 | with_reducible exact s.at6 | with_reducible exact s.at7) (fun h s => ?_); refine Sep.pickc (by first | with_reducible exact s | with_reducible exact s.at1 | with_reducible exact s.at2 | with_reducible exact s.at3 | with_reducible exact s.at4 | with_reducible exact s.at5 | with_reducible exact s.at6 | with_reducible exact s.at7) (fun h s => ?_); refine Sep.pickc (by first | with_reducible exact s | with_reducible exact s.at1 | with_reducible exact s.at2 | with_reducible exact s.at3 | with_reducible exact s.at4 | with_reducible exact s.at5 | with_reducible exact s.at6 | with_reducible exact s.at7) (fun h s => ?_); refine Sep.pickc (by first | with_reducible exact s | with_reducible exact s.at1 | with_reducible exact s.at2 | with_reducible exact s.at3 | with_reducible exact s.at4 | with_reducible exact s.at5 | with_reducible exact s.at6 | with_reducible exact s.at7) (fun h s => ?_); refine Sep.pickc (by first | with_reducible exact s | with_reducible exact s.at1 | with_reducible exact s.at2 | with_reducible exact s.at3 | with_reducible exact s.at4 | with_reducible exact s.at5 | with_reducible exact s.at6 | with_reducible exact s.at7) (fun h s => ?_); refine Sep.pickc (by first | with_reducible exact s | with_reducible exact s.at1 | with_reducible exact s.at2 | with_reducible exact s.at3 | with_reducible exact s.at4 | with_reducible exact s.at5 | with_reducible exact s.at6 | with_reducible exact s.at7) (fun h s => ?_); trivial)⟩
                        | true =>
                          cases b with
                          | true =>
                            simp only [Bool.not_true, Bool.and_false, Bool.false_eq_true, if_false] at d5
                            replace d5 := Lib.hid d5
                            go_wp2_with fail
                            go_roundg (1001 - (i + 1))
                            case measure => have := hk.out; omega
                            case rel => exact ⟨i + 1, cm, g', _, by have := hk.out; omega, by rw [hkb.out], by rw [hfb.out], by rw [hlf'.out], by go_num, ⟨hO'.out, by have := hO.out.2; have := d5.out; rw [this]; omega⟩, ⟨hql.out _ d6.out, hpr.out, hlb.out⟩, by rw [d5.out]; exact Lib.hid (by refine Hs.conseq (H6.out) fun h s => ?_; refine Sep.pickc (by first | with_reducible exact s | with_reducible exact s.at1 | with_reducible exact s.at2 | with_reducible exact s.at3 | with_reducible exact s.at4 | with_reducible exact s.at5 | with_reducible exact s.at6 | with_reducible exact s.at7) (fun h s => ?_); refine Sep.pickc (by first | with_reducible exact s | with_reducible exact s.at1 | with_reducible exact s.at2 | with_reducible exact s.at3 | with_reducible exact s.at4 | with_reducible exact s.at5 | with_reducible exact s.at6 | with_reducible exact s.at7) (fun h s => ?_); refine Sep.pickc (by first | with_reducible exact s | with_reducible exact s.at1 | with_reducible exact s.at2 | with_reducible exact s.at3 | with_reducible exact s.at4 | with_reducible exact s.at5 | with_reducible exact s.at6 | with_reducible exact s.at7) (fun h s => ?_); refine Sep.pickc (by first | with_reducible exact s | with_reducible exact s.at1 | with_reducible exact s.at2 | with_reducible exact s.at3 | with_reducible exact s.at4 | with_reducible exact s.at5 | with_reducible exact s.at6 | with_reducible exact s.at7) (fun h s => ?_); refine Sep.pickc (by first | with_reducible exact s | with_reducible exact s.at1 | with_reducible exact s.at2 | with_reducible exact s.at3 | with_reducible exact s.at4 | with_reducible exact s.at5 | with_reducible exact s.at6 | with_reducible exact s.at7) (fun h s => ?_); refine Sep.pickc (by first | with_reducible exact s | with_reducible exact s.at1 | with_reducible exact s.at2 | with_reducible exact s.at3 | with_reducible exact s.at4 | with_reducible exact s.at5 | with_reducible exact s.at6 | with_reducible exact s.at7) (fun h s => ?_); trivial)⟩
                          | false =>
                            simp only [Bool.not_false, Bool.and_true, if_true] at d5
                            replace d5 := Lib.hid d5
                            have i1 : w6.cell? ⟨bf, 1, none⟩ = some (.int .i64 f1) := H6.out.at3.cellOf 1 rfl
                            have i2 : w6.cell? ⟨bf, 2, none⟩ = some (.int .i64 f2) := H6.out.at3.cellOf 2 rfl
                            have i3 : w6.cell? ⟨bf, 3, none⟩ = some (.int .i64 f3) := H6.out.at3.cellOf 3 rfl
                            have i4 : w6.cell? ⟨bf, 4, none⟩ = some (.int .i64 f4) := H6.out.at3.cellOf 4 rfl
                            have i5 : w6.cell? ⟨bf, 5, none⟩ = some (.int .u64 f5) := H6.out.at3.cellOf 5 rfl
                            have i6 : w6.cell? ⟨bf, 6, none⟩ = some (.bool f6) := H6.out.at3.cellOf 6 rfl
                            have hclb : Hid ((g.cap.length + 1) * 64 ≤ 140737488355328) := by show _ ≤ _; have := hcl.out; omega
                            go_wp2_with (at_builtin; refine wpList_append1L (E := EOut) rfl (.tmp 212) (.tmp 216) 43 rfl 46 _ 8 64 Try.underlying43 infoO rfl (by decide) (by decide) rfl rfl rfl H6.out ((ci : Int), f0, (f1, f2, f3), f4, f5, f6) hclb.out ?_)
                            intro A7 c7 w7 H7
                            rw [show g.cap ++ [((ci : Int), f0, (f1, f2, f3), f4, f5, f6)] = g'.cap from d5.out.symm] at H7
                            have hcn : Hid (g'.cap.length = g.cap.length + 1) := by show _ = _; rw [d5.out]; simp
                            replace H7 := Lib.hid H7
                            clear b0 b6 i0 i1 i2 i3 i4 i5 i6 cc H6
                            have b6 : w7.cell? ⟨bx, 6, none⟩ = some (.int .u64 0) := H7.out.at2.cellOf 6 rfl
                            go_wp2_with fail
                            go_roundg (1001 - (i + 1))
                            case measure => have := hk.out; omega
                            case rel => exact ⟨i + 1, cm, g', _, by have := hk.out; omega, by rw [hkb.out], by rw [hfb.out], by rw [hlf'.out], by go_num, ⟨hO'.out, by have := hO.out.2; have := hcn.out; omega⟩, ⟨hql.out _ d6.out, hpr.out, hlb.out⟩, by rw [List.map_set]; exact Lib.hid (by refine Hs.conseq (H7.out) fun h s => ?_; refine Sep.pickc (by first | with_reducible exact s | with_reducible exact s.at1 | with_reducible exact s.at2 | with_reducible exact s.at3 | with_reducible exact s.at4 | with_reducible exact s.at5 | with_reducible exact s.at6 | with_reducible exact s.at7) (fun h s => ?_); refine Sep.pickc (by first | with_reducible exact s | with_reducible exact s.at1 | with_reducible exact s.at2 | with_reducible exact s.at3 | with_reducible exact s.at4 | with_reducible exact s.at5 | with_reducible exact s.at6 | with_reducible exact s.at7) (fun h s => ?_); refine Sep.pickc (by first | with_reducible exact s | with_reducible exact s.at1 | with_reducible exact s.at2 | with_reducible exact s.at3 | with_reducible exact s.at4 | with_reducible exact s.at5 | with_reducible exact s.at6 | with_reducible exact s.at7) (fun h s => ?_); refine Sep.pickc (by first | with_reducible exact s | with_reducible exact s.at1 | with_reducible exact s.at2 | with_reducible exact s.at3 | with_reducible exact s.at4 | with_reducible exact s.at5 | with_reducible exact s.at6 | with_reducible exact s.at7) (fun h s => ?_); refine Sep.pickc (by first | with_reducible exact s | with_reducible exact s.at1 | with_reducible exact s.at2 | with_reducible exact s.at3 | with_reducible exact s.at4 | with_reducible exact s.at5 | with_reducible exact s.at6 | with_reducible exact s.at7) (fun h s => ?_); refine Sep.pickc (by first | with_reducible exact s | with_reducible exact s.at1 | with_reducible exact s.at2 | with_reducible exact s.at3 | with_reducible exact s.at4 | with_reducible exact s.at5 | with_reducible exact s.at6 | with_reducible exact s.at7) (fun h s => ?_); trivial)⟩
                      · subst d0
                        simp only [barF, Prod.mk.injEq] at d1
                        obtain ⟨rfl, ⟨rfl, rfl, rfl⟩, rfl, rfl, rfl⟩ := d1
                        rw [hkb.out] at d3
                        rw [hfb.out] at d8
                        subst d8
                        have hO' : Hid (Ov N (cm.set ci true) g') := d5
                        replace d6 := Lib.hid d6
                        replace d7 := Lib.hid d7
                        replace d2 := Lib.hid d2
                        have fc := H6.out.at1.ls_frozen ci
                        have H7 := Lib.hid (H6.out.at1.ls_set0 rfl ci hcN true (.bool true) rfl)
                        clear d5 hcase H6
                        obtain ⟨fn, hfn⟩ : ∃ fn, fullO (cm.set ci true) = fn := ⟨_, rfl⟩
                        rw [hfn] at d4
                        replace hfn := Lib.hid hfn
                        cases kb <;> simp only [Bool.not_false, Bool.not_true] at d3 <;> cases fn
                        all_goals
                          go_upto_region 45 with (fail)
                          generalize World.setCell w6 _ _ = w7 at H7 ⊢
                          clear b0 b6 i0 cc fc
                          have b0 : w7.cell? ⟨bx, 0, none⟩ = some (.int .i64 x0) := H7.out.at2.cellOf 0 rfl
                          have b6 : w7.cell? ⟨bx, 6, none⟩ = some (.int .u64 x6) := H7.out.at2.cellOf 6 rfl
                          go_wp2_with fail
                          go_roundg (1001 - (i + 1))
                          case measure => have := hk.out; omega
                          case rel => exact ⟨i + 1, cm.set ci true, g', _, by have := hk.out; omega, by rw [d7.out], by rw [hfn.out], by rw [hlf'.out], by go_num, ⟨hO'.out, by have := hO.out.2; have := d6.out; rw [this]; omega⟩, ⟨hqc.out _ d2.out, hpr.out, hlb.out⟩, by rw [d6.out]; exact Lib.hid (by refine Hs.conseq (H7.out) fun h s => ?_; refine Sep.pickc (by first | with_reducible exact s | with_reducible exact s.at1 | with_reducible exact s.at2 | with_reducible exact s.at3 | with_reducible exact s.at4 | with_reducible exact s.at5 | with_reducible exact s.at6 | with_reducible exact s.at7) (fun h s => ?_); refine Sep.pickc (by first | with_reducible exact s | with_reducible exact s.at1 | with_reducible exact s.at2 | with_reducible exact s.at3 | with_reducible exact s.at4 | with_reducible exact s.at5 | with_reducible exact s.at6 | with_reducible exact s.at7) (fun h s => ?_); refine Sep.pickc (by first | with_reducible exact s | with_reducible exact s.at1 | with_reducible exact s.at2 | with_reducible exact s.at3 | with_reducible exact s.at4 | with_reducible exact s.at5 | with_reducible exact s.at6 | with_reducible exact s.at7) (fun h s => ?_); refine Sep.pickc (by first | with_reducible exact s | with_reducible exact s.at1 | with_reducible exact s.at2 | with_reducible exact s.at3 | with_reducible exact s.at4 | with_reducible exact s.at5 | with_reducible exact s.at6 | with_reducible exact s.at7) (fun h s => ?_); refine Sep.pickc (by first | with_reducible exact s | with_reducible exact s.at1 | with_reducible exact s.at2 | with_reducible exact s.at3 | with_reducible exact s.at4 | with_reducible exact s.at5 | with_reducible exact s.at6 | with_reducible exact s.at7) (fun h s => ?_); refine Sep.pickc (by first | with_reducible exact s | with_reducible exact s.at1 | with_reducible exact s.at2 | with_reducible exact s.at3 | with_reducible exact s.at4 | with_reducible exact s.at5 | with_reducible exact s.at6 | with_reducible exact s.at7) (fun h s => ?_); trivial)⟩

end Go.Proofs.Ytlhgmfdmkckmhaa

import Derived.Test.YtlhgmfdmkckmhaaPd
import Derived.Test.YtlhgmfdmkckmhaaProg
import Derived.Test.YtlhgmfdmkckmhaaLs
import Derived.Outline
import Derived.StillTailTactics
import Derived.Deep.DeepCutAuto
import Derived.Deep.CutBlock
import Derived.Deep.LoopGhost
import Derived.Deep.QuietTactic
import Derived.BigQuiet
import Derived.Deep.RegionHeld3
import Derived.Deep.RegionLaw
set_option linter.unusedVariables false
set_option linter.unusedSimpArgs false
namespace Go.Proofs.Ytlhgmfdmkckmhaa
open Go.RowKit
set_option maxRecDepth 100000 in
set_option maxHeartbeats 1000000 in
theorem rise29 (p ch : Nat) (m : Int) (s : Gt) (w w0 : World) (R : List HP) (H : Hs w0 w (GateP p s :: R)) (hch : ch < s.marks.length) :
    Calls Try.prog 29 #[.pointer (some ⟨p, 0, none⟩), .int .i64 ch, .int .i64 m] w fun e w' => e = .returned (stv (s.riseS ch m)) ∧ Hs w0 w' (GateP p (s.rise ch m) :: R) := by
  have H1 := H.alloc (.cells #[.int .i64 0, .int .i64 0, .int .i64 0, .int .i64 0, .int .i64 0, .int .u64 0, .int .u64 0] 38)
  have hne : Hid (s.marks ≠ []) := fun e => by rw [e] at hch; simp at hch
  have hne' : Hid ((s.rise ch m).marks ≠ []) := fun e => by
    have h := congrArg List.length e
    simp only [Gt.rise, Gt.raised, List.length_set, List.length_nil] at h
    omega
  obtain ⟨x, hx⟩ : ∃ x, s.marks[ch]? = some x := ⟨_, List.getElem?_eq_getElem hch⟩
  obtain ⟨l0, hl0⟩ : ∃ l, lmin s.marks = l := ⟨_, rfl⟩
  obtain ⟨l1, hl1⟩ : ∃ l, lmin (s.raised ch m) = l := ⟨_, rfl⟩
  have hst : Hid (s.riseS ch m = if l0 < l1 then (2, (0, 0, 0), l1, 0, 0) else noStep) := by show _ = _; unfold Gt.riseS; rw [hl0, hl1]
  replace hl0 := Lib.hid hl0
  replace hl1 : Hid (lmin (s.rise ch m).marks = l1) := hl1
  obtain ⟨N, hN⟩ : ∃ N, s.marks.length = N := ⟨_, rfl⟩
  rw [hN] at hch
  have hc0 : (0 : Int) ≤ (ch : Int) := by omega
  have hc1 : (ch : Int) < (N : Int) := by omega
  replace hN := Lib.hid hN
  replace hx := Lib.hid hx
  replace H1 := Lib.hid H1
  clear H
  rcases (show m ≤ x ∨ x < m by omega) with hmx | hmx
  · have hy : Hid (max x m = x) := by show _ = _; omega
    go_enter Try.func29, Try.ntmps29
    go_wp2_with fail
    generalize World.alloc w _ = w1 at H1 ⊢
    generalize w.heap.size = bx at H1 ⊢
    refine (mark17 p s w1 w0 _ H1.out.at1 hne.out).mono ?_
    rw [hl0.out]
    rintro e w2 ⟨rfl, rfl⟩
    obtain ⟨Am, cm, Ac, cc, Ab, cb, Ak, ck, H2⟩ := GateP.open_ H1.out.at1
    rw [hN.out] at H2
    have hcm := H2.at1.ls_rd.caps.2
    obtain ⟨g, off, rfl⟩ := H2.at1.ls_rd.some_ (by have := hN.out; omega)
    replace H2 := H2.at5
    have hcy : Hid (∀ w' R', Hs w0 w' (Ls (Enc.num .i64) 2 (.slice (some ⟨g, off, none⟩) N cm) s.marks :: R') → w'.cell? ⟨g, off + ch, none⟩ = some (.int .i64 x)) := fun w' R' h => by have := h.ls_rd.cell hx.out 0 rfl; simpa [Enc.num] using this
    clear H1
    go_wp2_with fail
    refine wp_region_left (S := fun w' : World => w'.cell? ⟨p, 0, none⟩ = some (.slice (some ⟨g, off, none⟩) N cm) ∧ w'.cell? ⟨g, off + ch, none⟩ = some (.int .i64 x)) 15 mixed ?_
    have hS : (fun w' : World => w'.cell? ⟨p, 0, none⟩ = some (.slice (some ⟨g, off, none⟩) N cm) ∧ w'.cell? ⟨g, off + ch, none⟩ = some (.int .i64 x)) w1.drew := by exact ⟨H2.drew.at1.cellOf 0 rfl, hcy.out _ _ H2.drew.at2⟩
    refine Left.pure (i := 0) (v := ?va2_0) rfl (by kernel_rfl) (fun _ _ _ h => h) (Or.inr hS) (Or.inl ⟨by kernel_rfl, fun w _ => ?hya2_0⟩) ?resta2_0
    case hya2_0 => (go_simp; try with_reducible rfl)
    try simp only [Act.put, List.setIfInBounds_toArray, List.set_cons_zero, List.set_cons_succ]
    refine Left.pure (i := 1) (v := ?va2_1) rfl (by kernel_rfl) (fun _ _ _ h => h) (Or.inr hS) (Or.inl ⟨by kernel_rfl, fun w _ => ?hya2_1⟩) ?resta2_1
    case hya2_1 => (go_simp; try with_reducible rfl)
    try simp only [Act.put, List.setIfInBounds_toArray, List.set_cons_zero, List.set_cons_succ]
    refine Left.pure (i := 2) (v := ?va2_2) rfl (by kernel_rfl) (fun _ _ _ h => h) (Or.inr hS) (Or.inl ⟨by kernel_rfl, fun w _ => ?hya2_2⟩) ?resta2_2
    case hya2_2 => (go_simp; try with_reducible rfl)
    try simp only [Act.put, List.setIfInBounds_toArray, List.set_cons_zero, List.set_cons_succ]
    refine Left.take (i := 3) (v := ?va2_3) rfl (by kernel_rfl) (fun _ _ _ h => h) hS (Or.inl ⟨by kernel_rfl, fun w hSw => ?hya2_3⟩) ?resta2_3
    case hya2_3 => ((try dsimp only at hSw); go_simp; try with_reducible rfl)
    try simp only [Act.put, List.setIfInBounds_toArray, List.set_cons_zero, List.set_cons_succ]
    refine Left.pure (i := 4) (v := ?va2_4) rfl (by kernel_rfl) (fun _ _ _ h => h) (Or.inr hS) (Or.inl ⟨by kernel_rfl, fun w _ => ?hya2_4⟩) ?resta2_4
    case hya2_4 => (go_simp; try with_reducible rfl)
    try simp only [Act.put, List.setIfInBounds_toArray, List.set_cons_zero, List.set_cons_succ]
    refine Left.pure (i := 5) (v := ?va2_5) rfl (by kernel_rfl) (fun _ _ _ h => h) (Or.inr hS) (Or.inl ⟨by kernel_rfl, fun w _ => ?hya2_5⟩) ?resta2_5
    case hya2_5 => (go_simp; try with_reducible rfl)
    try simp only [Act.put, List.setIfInBounds_toArray, List.set_cons_zero, List.set_cons_succ]
    refine Left.pure (i := 6) (v := ?va2_6) rfl (by kernel_rfl) (fun _ _ _ h => h) (Or.inr hS) (Or.inl ⟨by kernel_rfl, fun w _ => ?hya2_6⟩) ?resta2_6
    case hya2_6 => (go_simp; try with_reducible rfl)
    try simp only [Act.put, List.setIfInBounds_toArray, List.set_cons_zero, List.set_cons_succ]
    refine Left.pure (i := 7) (v := ?va2_7) rfl (by kernel_rfl) (fun _ _ _ h => h) (Or.inr hS) (Or.inl ⟨by kernel_rfl, fun w _ => ?hya2_7⟩) ?resta2_7
    case hya2_7 => (go_simp; try with_reducible rfl)
    try simp only [Act.put, List.setIfInBounds_toArray, List.set_cons_zero, List.set_cons_succ]
    refine Left.take (i := 8) (v := ?va2_8) rfl (by kernel_rfl) (fun _ _ _ h => h) hS (Or.inl ⟨by kernel_rfl, fun w hSw => ?hya2_8⟩) ?resta2_8
    case hya2_8 => ((try dsimp only at hSw); go_simp; try with_reducible rfl)
    try simp only [Act.put, List.setIfInBounds_toArray, List.set_cons_zero, List.set_cons_succ]
    refine Left.pure (i := 9) (v := ?va2_9) rfl (by kernel_rfl) (fun _ _ _ h => h) (Or.inr hS) (Or.inl ⟨by kernel_rfl, fun w _ => ?hya2_9⟩) ?resta2_9
    case hya2_9 => (go_simp; try with_reducible rfl)
    try simp only [Act.put, List.setIfInBounds_toArray, List.set_cons_zero, List.set_cons_succ]
    refine Left.pure (i := 10) (v := ?va2_10) rfl (by kernel_rfl) (fun _ _ _ h => h) (Or.inr hS) (Or.inl ⟨by kernel_rfl, fun w _ => ?hya2_10⟩) ?resta2_10
    case hya2_10 => (go_simp; try with_reducible rfl)
    try simp only [Act.put, List.setIfInBounds_toArray, List.set_cons_zero, List.set_cons_succ]
    refine Left.take (i := 11) (v := ?va2_11) rfl (by kernel_rfl) (fun _ _ _ h => h) hS (Or.inl ⟨by kernel_rfl, fun w hSw => ?hya2_11⟩) ?resta2_11
    case hya2_11 => ((try dsimp only at hSw); go_simp; try with_reducible rfl)
    try simp only [Act.put, List.setIfInBounds_toArray, List.set_cons_zero, List.set_cons_succ]
    refine Left.pure (i := 12) (v := ?va2_12) rfl (by kernel_rfl) (fun _ _ _ h => h) (Or.inr hS) (Or.inl ⟨by kernel_rfl, fun w _ => ?hya2_12⟩) ?resta2_12
    case hya2_12 => (go_simp; try with_reducible rfl)
    try simp only [Act.put, List.setIfInBounds_toArray, List.set_cons_zero, List.set_cons_succ]
    refine Left.pure (i := 13) (v := ?va2_13) rfl (by kernel_rfl) (fun _ _ _ h => h) (Or.inr hS) (Or.inl ⟨by kernel_rfl, fun w _ => ?hya2_13⟩) ?resta2_13
    case hya2_13 => (go_simp; try with_reducible rfl)
    try simp only [Act.put, List.setIfInBounds_toArray, List.set_cons_zero, List.set_cons_succ]
    refine Left.pure (i := 14) (v := ?va2_14) rfl (by kernel_rfl) (fun _ _ _ h => h) (Or.inr hS) (Or.inl ⟨by kernel_rfl, fun w _ => ?hya2_14⟩) ?resta2_14
    case hya2_14 => (go_simp; try with_reducible rfl)
    try simp only [Act.put, List.setIfInBounds_toArray, List.set_cons_zero, List.set_cons_succ]
    refine Left.run (i := 15) rfl (by kernel_rfl) (fun K hK => ?_)
    have f1 := H2.drew.at2.ls_frozen (off + ch)
    have d1 := hcy.out _ _ H2.drew.at2
    go_simp
    refine hK.out _ _ (Or.inl (by kernel_rfl)) ?_
    clear hK K
    try simp only [Act.put, List.setIfInBounds_toArray, List.set_cons_zero, List.set_cons_succ]
    refine Left.done (by kernel_rfl) ?_ _

    have H3 := (rise_part s p ch g off cm cc cb ck N Ac Ab Ak x m x _ w0 R hN.out hx.out hy.out bx _ H2).drew
    clear f1 d1
    go_wp2_with fail
    generalize World.drew _ = w3 at H3 ⊢
    refine (mark17 p (s.rise ch m) w3 w0 _ H3 hne'.out).mono ?_
    rw [hl1.out]
    rintro e w4 ⟨rfl, rfl⟩
    have b0 : w3.cell? ⟨bx, 0, none⟩ = some (.int .i64 0) := H3.at1.cellOf 0 rfl
    have b1 : w3.cell? ⟨bx, 1, none⟩ = some (.int .i64 0) := H3.at1.cellOf 1 rfl
    have b2 : w3.cell? ⟨bx, 2, none⟩ = some (.int .i64 0) := H3.at1.cellOf 2 rfl
    have b3 : w3.cell? ⟨bx, 3, none⟩ = some (.int .i64 0) := H3.at1.cellOf 3 rfl
    have b4 : w3.cell? ⟨bx, 4, none⟩ = some (.int .i64 0) := H3.at1.cellOf 4 rfl
    have b5 : w3.cell? ⟨bx, 5, none⟩ = some (.int .u64 0) := H3.at1.cellOf 5 rfl
    have b6 : w3.cell? ⟨bx, 6, none⟩ = some (.int .u64 0) := H3.at1.cellOf 6 rfl
    have g0 := H3.at1.frozenOf 0
    have g1 := H3.at1.frozenOf 1
    have g2 := H3.at1.frozenOf 2
    have g3 := H3.at1.frozenOf 3
    have g4 := H3.at1.frozenOf 4
    have g5 := H3.at1.frozenOf 5
    have g6 := H3.at1.frozenOf 6
    by_cases hlt : l0 < l1
    · have hd : decide (l0 < l1) = true := by simpa using hlt
      rw [if_pos hlt] at hst
      clear hlt
      go_wp2_with fail
      have H4 := ((((((H3.at1.setCell (i := 0) (.int .i64 2)).setCell (i := 1) (.int .i64 0)).setCell (i := 2) (.int .i64 0)).setCell (i := 3) (.int .i64 0)).setCell (i := 4) (.int .i64 l1)).setCell (i := 5) (.int .u64 0)).setCell (i := 6) (.int .u64 0)
      clear b0 b1 b2 b3 b4 b5 b6 g0 g1 g2 g3 g4 g5 g6
      generalize World.setCell _ _ _ = w5 at H4 ⊢
      have r0 : w5.cell? ⟨bx, 0, none⟩ = some (.int .i64 2) := H4.cellOf 0 rfl
      have r1 : w5.cell? ⟨bx, 1, none⟩ = some (.int .i64 0) := H4.cellOf 1 rfl
      have r2 : w5.cell? ⟨bx, 2, none⟩ = some (.int .i64 0) := H4.cellOf 2 rfl
      have r3 : w5.cell? ⟨bx, 3, none⟩ = some (.int .i64 0) := H4.cellOf 3 rfl
      have r4 : w5.cell? ⟨bx, 4, none⟩ = some (.int .i64 l1) := H4.cellOf 4 rfl
      have r5 : w5.cell? ⟨bx, 5, none⟩ = some (.int .u64 0) := H4.cellOf 5 rfl
      have r6 : w5.cell? ⟨bx, 6, none⟩ = some (.int .u64 0) := H4.cellOf 6 rfl
      refine bodyPost_ret (v := stv (s.riseS ch m)) ?_ rfl ⟨rfl, H4.tail⟩
      rw [hst.out]
      simp [results, Try.results29, go_sem, r0, r1, r2, r3, r4, r5, r6, stv, noStep]
    · have hd : decide (l0 < l1) = false := by simpa using hlt
      rw [if_neg hlt] at hst
      clear hlt
      go_wp2_with fail
      have H4 := ((((((H3.at1.setCell (i := 0) (.int .i64 0)).setCell (i := 1) (.int .i64 0)).setCell (i := 2) (.int .i64 0)).setCell (i := 3) (.int .i64 0)).setCell (i := 4) (.int .i64 0)).setCell (i := 5) (.int .u64 0)).setCell (i := 6) (.int .u64 0)
      clear b0 b1 b2 b3 b4 b5 b6 g0 g1 g2 g3 g4 g5 g6
      generalize World.setCell _ _ _ = w5 at H4 ⊢
      have r0 : w5.cell? ⟨bx, 0, none⟩ = some (.int .i64 0) := H4.cellOf 0 rfl
      have r1 : w5.cell? ⟨bx, 1, none⟩ = some (.int .i64 0) := H4.cellOf 1 rfl
      have r2 : w5.cell? ⟨bx, 2, none⟩ = some (.int .i64 0) := H4.cellOf 2 rfl
      have r3 : w5.cell? ⟨bx, 3, none⟩ = some (.int .i64 0) := H4.cellOf 3 rfl
      have r4 : w5.cell? ⟨bx, 4, none⟩ = some (.int .i64 0) := H4.cellOf 4 rfl
      have r5 : w5.cell? ⟨bx, 5, none⟩ = some (.int .u64 0) := H4.cellOf 5 rfl
      have r6 : w5.cell? ⟨bx, 6, none⟩ = some (.int .u64 0) := H4.cellOf 6 rfl
      refine bodyPost_ret (v := stv (s.riseS ch m)) ?_ rfl ⟨rfl, H4.tail⟩
      rw [hst.out]
      simp [results, Try.results29, go_sem, r0, r1, r2, r3, r4, r5, r6, stv, noStep]
  · have hy : Hid (max x m = m) := by show _ = _; omega
    go_enter Try.func29, Try.ntmps29
    go_wp2_with fail
    generalize World.alloc w _ = w1 at H1 ⊢
    generalize w.heap.size = bx at H1 ⊢
    refine (mark17 p s w1 w0 _ H1.out.at1 hne.out).mono ?_
    rw [hl0.out]
    rintro e w2 ⟨rfl, rfl⟩
    obtain ⟨Am, cm, Ac, cc, Ab, cb, Ak, ck, H2⟩ := GateP.open_ H1.out.at1
    rw [hN.out] at H2
    have hcm := H2.at1.ls_rd.caps.2
    obtain ⟨g, off, rfl⟩ := H2.at1.ls_rd.some_ (by have := hN.out; omega)
    replace H2 := H2.at5
    have hcy : Hid (∀ w' R', Hs w0 w' (Ls (Enc.num .i64) 2 (.slice (some ⟨g, off, none⟩) N cm) s.marks :: R') → w'.cell? ⟨g, off + ch, none⟩ = some (.int .i64 x)) := fun w' R' h => by have := h.ls_rd.cell hx.out 0 rfl; simpa [Enc.num] using this
    clear H1
    go_wp2_with fail
    refine wp_region_left (S := fun w' : World => w'.cell? ⟨p, 0, none⟩ = some (.slice (some ⟨g, off, none⟩) N cm) ∧ w'.cell? ⟨g, off + ch, none⟩ = some (.int .i64 x)) 15 mixed ?_
    have hS : (fun w' : World => w'.cell? ⟨p, 0, none⟩ = some (.slice (some ⟨g, off, none⟩) N cm) ∧ w'.cell? ⟨g, off + ch, none⟩ = some (.int .i64 x)) w1.drew := by exact ⟨H2.drew.at1.cellOf 0 rfl, hcy.out _ _ H2.drew.at2⟩
    refine Left.pure (i := 0) (v := ?vb2_0) rfl (by kernel_rfl) (fun _ _ _ h => h) (Or.inr hS) (Or.inl ⟨by kernel_rfl, fun w _ => ?hyb2_0⟩) ?restb2_0
    case hyb2_0 => (go_simp; try with_reducible rfl)
    try simp only [Act.put, List.setIfInBounds_toArray, List.set_cons_zero, List.set_cons_succ]
    refine Left.pure (i := 1) (v := ?vb2_1) rfl (by kernel_rfl) (fun _ _ _ h => h) (Or.inr hS) (Or.inl ⟨by kernel_rfl, fun w _ => ?hyb2_1⟩) ?restb2_1
    case hyb2_1 => (go_simp; try with_reducible rfl)
    try simp only [Act.put, List.setIfInBounds_toArray, List.set_cons_zero, List.set_cons_succ]
    refine Left.pure (i := 2) (v := ?vb2_2) rfl (by kernel_rfl) (fun _ _ _ h => h) (Or.inr hS) (Or.inl ⟨by kernel_rfl, fun w _ => ?hyb2_2⟩) ?restb2_2
    case hyb2_2 => (go_simp; try with_reducible rfl)
    try simp only [Act.put, List.setIfInBounds_toArray, List.set_cons_zero, List.set_cons_succ]
    refine Left.take (i := 3) (v := ?vb2_3) rfl (by kernel_rfl) (fun _ _ _ h => h) hS (Or.inl ⟨by kernel_rfl, fun w hSw => ?hyb2_3⟩) ?restb2_3
    case hyb2_3 => ((try dsimp only at hSw); go_simp; try with_reducible rfl)
    try simp only [Act.put, List.setIfInBounds_toArray, List.set_cons_zero, List.set_cons_succ]
    refine Left.pure (i := 4) (v := ?vb2_4) rfl (by kernel_rfl) (fun _ _ _ h => h) (Or.inr hS) (Or.inl ⟨by kernel_rfl, fun w _ => ?hyb2_4⟩) ?restb2_4
    case hyb2_4 => (go_simp; try with_reducible rfl)
    try simp only [Act.put, List.setIfInBounds_toArray, List.set_cons_zero, List.set_cons_succ]
    refine Left.pure (i := 5) (v := ?vb2_5) rfl (by kernel_rfl) (fun _ _ _ h => h) (Or.inr hS) (Or.inl ⟨by kernel_rfl, fun w _ => ?hyb2_5⟩) ?restb2_5
    case hyb2_5 => (go_simp; try with_reducible rfl)
    try simp only [Act.put, List.setIfInBounds_toArray, List.set_cons_zero, List.set_cons_succ]
    refine Left.pure (i := 6) (v := ?vb2_6) rfl (by kernel_rfl) (fun _ _ _ h => h) (Or.inr hS) (Or.inl ⟨by kernel_rfl, fun w _ => ?hyb2_6⟩) ?restb2_6
    case hyb2_6 => (go_simp; try with_reducible rfl)
    try simp only [Act.put, List.setIfInBounds_toArray, List.set_cons_zero, List.set_cons_succ]
    refine Left.pure (i := 7) (v := ?vb2_7) rfl (by kernel_rfl) (fun _ _ _ h => h) (Or.inr hS) (Or.inl ⟨by kernel_rfl, fun w _ => ?hyb2_7⟩) ?restb2_7
    case hyb2_7 => (go_simp; try with_reducible rfl)
    try simp only [Act.put, List.setIfInBounds_toArray, List.set_cons_zero, List.set_cons_succ]
    refine Left.take (i := 8) (v := ?vb2_8) rfl (by kernel_rfl) (fun _ _ _ h => h) hS (Or.inl ⟨by kernel_rfl, fun w hSw => ?hyb2_8⟩) ?restb2_8
    case hyb2_8 => ((try dsimp only at hSw); go_simp; try with_reducible rfl)
    try simp only [Act.put, List.setIfInBounds_toArray, List.set_cons_zero, List.set_cons_succ]
    refine Left.pure (i := 9) (v := ?vb2_9) rfl (by kernel_rfl) (fun _ _ _ h => h) (Or.inr hS) (Or.inl ⟨by kernel_rfl, fun w _ => ?hyb2_9⟩) ?restb2_9
    case hyb2_9 => (go_simp; try with_reducible rfl)
    try simp only [Act.put, List.setIfInBounds_toArray, List.set_cons_zero, List.set_cons_succ]
    refine Left.pure (i := 10) (v := ?vb2_10) rfl (by kernel_rfl) (fun _ _ _ h => h) (Or.inr hS) (Or.inl ⟨by kernel_rfl, fun w _ => ?hyb2_10⟩) ?restb2_10
    case hyb2_10 => (go_simp; try with_reducible rfl)
    try simp only [Act.put, List.setIfInBounds_toArray, List.set_cons_zero, List.set_cons_succ]
    refine Left.take (i := 11) (v := ?vb2_11) rfl (by kernel_rfl) (fun _ _ _ h => h) hS (Or.inl ⟨by kernel_rfl, fun w hSw => ?hyb2_11⟩) ?restb2_11
    case hyb2_11 => ((try dsimp only at hSw); go_simp; try with_reducible rfl)
    try simp only [Act.put, List.setIfInBounds_toArray, List.set_cons_zero, List.set_cons_succ]
    refine Left.pure (i := 12) (v := ?vb2_12) rfl (by kernel_rfl) (fun _ _ _ h => h) (Or.inr hS) (Or.inl ⟨by kernel_rfl, fun w _ => ?hyb2_12⟩) ?restb2_12
    case hyb2_12 => (go_simp; try with_reducible rfl)
    try simp only [Act.put, List.setIfInBounds_toArray, List.set_cons_zero, List.set_cons_succ]
    refine Left.pure (i := 13) (v := ?vb2_13) rfl (by kernel_rfl) (fun _ _ _ h => h) (Or.inr hS) (Or.inl ⟨by kernel_rfl, fun w _ => ?hyb2_13⟩) ?restb2_13
    case hyb2_13 => (go_simp; try with_reducible rfl)
    try simp only [Act.put, List.setIfInBounds_toArray, List.set_cons_zero, List.set_cons_succ]
    refine Left.pure (i := 14) (v := ?vb2_14) rfl (by kernel_rfl) (fun _ _ _ h => h) (Or.inr hS) (Or.inl ⟨by kernel_rfl, fun w _ => ?hyb2_14⟩) ?restb2_14
    case hyb2_14 => (go_simp; try with_reducible rfl)
    try simp only [Act.put, List.setIfInBounds_toArray, List.set_cons_zero, List.set_cons_succ]
    refine Left.run (i := 15) rfl (by kernel_rfl) (fun K hK => ?_)
    have f1 := H2.drew.at2.ls_frozen (off + ch)
    have d1 := hcy.out _ _ H2.drew.at2
    go_simp
    refine hK.out _ _ (Or.inl (by kernel_rfl)) ?_
    clear hK K
    try simp only [Act.put, List.setIfInBounds_toArray, List.set_cons_zero, List.set_cons_succ]
    refine Left.done (by kernel_rfl) ?_ _

    have H3 := (rise_part s p ch g off cm cc cb ck N Ac Ab Ak x m m _ w0 R hN.out hx.out hy.out bx _ H2).drew
    clear f1 d1
    go_wp2_with fail
    generalize World.drew _ = w3 at H3 ⊢
    refine (mark17 p (s.rise ch m) w3 w0 _ H3 hne'.out).mono ?_
    rw [hl1.out]
    rintro e w4 ⟨rfl, rfl⟩
    have b0 : w3.cell? ⟨bx, 0, none⟩ = some (.int .i64 0) := H3.at1.cellOf 0 rfl
    have b1 : w3.cell? ⟨bx, 1, none⟩ = some (.int .i64 0) := H3.at1.cellOf 1 rfl
    have b2 : w3.cell? ⟨bx, 2, none⟩ = some (.int .i64 0) := H3.at1.cellOf 2 rfl
    have b3 : w3.cell? ⟨bx, 3, none⟩ = some (.int .i64 0) := H3.at1.cellOf 3 rfl
    have b4 : w3.cell? ⟨bx, 4, none⟩ = some (.int .i64 0) := H3.at1.cellOf 4 rfl
    have b5 : w3.cell? ⟨bx, 5, none⟩ = some (.int .u64 0) := H3.at1.cellOf 5 rfl
    have b6 : w3.cell? ⟨bx, 6, none⟩ = some (.int .u64 0) := H3.at1.cellOf 6 rfl
    have g0 := H3.at1.frozenOf 0
    have g1 := H3.at1.frozenOf 1
    have g2 := H3.at1.frozenOf 2
    have g3 := H3.at1.frozenOf 3
    have g4 := H3.at1.frozenOf 4
    have g5 := H3.at1.frozenOf 5
    have g6 := H3.at1.frozenOf 6
    by_cases hlt : l0 < l1
    · have hd : decide (l0 < l1) = true := by simpa using hlt
      rw [if_pos hlt] at hst
      clear hlt
      go_wp2_with fail
      have H4 := ((((((H3.at1.setCell (i := 0) (.int .i64 2)).setCell (i := 1) (.int .i64 0)).setCell (i := 2) (.int .i64 0)).setCell (i := 3) (.int .i64 0)).setCell (i := 4) (.int .i64 l1)).setCell (i := 5) (.int .u64 0)).setCell (i := 6) (.int .u64 0)
      clear b0 b1 b2 b3 b4 b5 b6 g0 g1 g2 g3 g4 g5 g6
      generalize World.setCell _ _ _ = w5 at H4 ⊢
      have r0 : w5.cell? ⟨bx, 0, none⟩ = some (.int .i64 2) := H4.cellOf 0 rfl
      have r1 : w5.cell? ⟨bx, 1, none⟩ = some (.int .i64 0) := H4.cellOf 1 rfl
      have r2 : w5.cell? ⟨bx, 2, none⟩ = some (.int .i64 0) := H4.cellOf 2 rfl
      have r3 : w5.cell? ⟨bx, 3, none⟩ = some (.int .i64 0) := H4.cellOf 3 rfl
      have r4 : w5.cell? ⟨bx, 4, none⟩ = some (.int .i64 l1) := H4.cellOf 4 rfl
      have r5 : w5.cell? ⟨bx, 5, none⟩ = some (.int .u64 0) := H4.cellOf 5 rfl
      have r6 : w5.cell? ⟨bx, 6, none⟩ = some (.int .u64 0) := H4.cellOf 6 rfl
      refine bodyPost_ret (v := stv (s.riseS ch m)) ?_ rfl ⟨rfl, H4.tail⟩
      rw [hst.out]
      simp [results, Try.results29, go_sem, r0, r1, r2, r3, r4, r5, r6, stv, noStep]
    · have hd : decide (l0 < l1) = false := by simpa using hlt
      rw [if_neg hlt] at hst
      clear hlt
      go_wp2_with fail
      have H4 := ((((((H3.at1.setCell (i := 0) (.int .i64 0)).setCell (i := 1) (.int .i64 0)).setCell (i := 2) (.int .i64 0)).setCell (i := 3) (.int .i64 0)).setCell (i := 4) (.int .i64 0)).setCell (i := 5) (.int .u64 0)).setCell (i := 6) (.int .u64 0)
      clear b0 b1 b2 b3 b4 b5 b6 g0 g1 g2 g3 g4 g5 g6
      generalize World.setCell _ _ _ = w5 at H4 ⊢
      have r0 : w5.cell? ⟨bx, 0, none⟩ = some (.int .i64 0) := H4.cellOf 0 rfl
      have r1 : w5.cell? ⟨bx, 1, none⟩ = some (.int .i64 0) := H4.cellOf 1 rfl
      have r2 : w5.cell? ⟨bx, 2, none⟩ = some (.int .i64 0) := H4.cellOf 2 rfl
      have r3 : w5.cell? ⟨bx, 3, none⟩ = some (.int .i64 0) := H4.cellOf 3 rfl
      have r4 : w5.cell? ⟨bx, 4, none⟩ = some (.int .i64 0) := H4.cellOf 4 rfl
      have r5 : w5.cell? ⟨bx, 5, none⟩ = some (.int .u64 0) := H4.cellOf 5 rfl
      have r6 : w5.cell? ⟨bx, 6, none⟩ = some (.int .u64 0) := H4.cellOf 6 rfl
      refine bodyPost_ret (v := stv (s.riseS ch m)) ?_ rfl ⟨rfl, H4.tail⟩
      rw [hst.out]
      simp [results, Try.results29, go_sem, r0, r1, r2, r3, r4, r5, r6, stv, noStep]
end Go.Proofs.Ytlhgmfdmkckmhaa

import Derived.Test.YtlhgmfdmkckmhaaPa
import Derived.Test.YtlhgmfdmkckmhaaPn
import Derived.Test.YtlhgmfdmkckmhaaProg
import Derived.Test.YtlhgmfdmkckmhaaLs
import Derived.Outline
import Derived.StillTailTactics
import Derived.Deep.DeepCutAuto
import Derived.Deep.CutBlock
import Derived.Deep.LoopGhost
import Derived.Deep.QuietTactic
import Derived.BigQuiet
import Derived.Deep.RegionHeld3
import Derived.Deep.RegionLaw
set_option linter.unusedVariables false
set_option linter.unusedSimpArgs false
namespace Go.Proofs.Ytlhgmfdmkckmhaa
open Go.RowKit
def minMark : Int := -9223372036854775808
def loaded (N : Nat) (ms : List Int) : List Int := (List.range N).map fun i => ms.getD i minMark
theorem loaded_take (N : Nat) (ms : List Int) (j : Nat) (h : j < N) : (loaded N ms).take (j + 1) = (loaded N ms).take j ++ [ms.getD j minMark] := by
  have : (loaded N ms)[j]? = some (ms.getD j minMark) := by simp [loaded, List.getElem?_range h]
  rw [List.take_add_one, this]
  rfl
theorem set_take {α : Type} (M : List α) (j : Nat) (v : α) (h : j < M.length) : (M.set j v).take (j + 1) = M.take j ++ [v] := by
  rw [List.take_add_one, List.getElem?_set_self h, List.take_set_of_le (Nat.le_refl j)]
  rfl
def Gt.load (s : Gt) (ms : List Int) : Gt := Gt.begin ⟨loaded s.marks.length ms, s.came, s.blk, s.under, s.last, s.over, s.cap⟩ 0 false
set_option maxRecDepth 100000 in
set_option maxHeartbeats 800000 in
theorem load23 (p : Nat) (s : Gt) (mv : Value) (ms : List Int) (w w0 : World) (R : List HP) (H : Hs w0 w (GateP p s :: R)) (hr : ∀ w', Hs w0 w' R → RdL (Enc.num .i64) w' mv ms) :
    Calls Try.prog 23 #[.pointer (some ⟨p, 0, none⟩), mv] w fun e w' => e = .returned (.tuple #[]) ∧ Hs w0 w' (GateP p (s.load ms) :: R) := by
  obtain ⟨Aq, cq, hmv⟩ := (hr w H.tail).form
  subst hmv
  have hcq := (hr w H.tail).caps.2
  obtain ⟨Am, cm, Ac, cc, Ab, cb, Ak, ck, H⟩ := GateP.open_ H
  obtain ⟨N, hN⟩ : ∃ N, s.marks.length = N := ⟨_, rfl⟩
  rw [hN] at H
  have k0 : w.cell? ⟨p, 0, none⟩ = some (.slice Am N cm) := H.cellOf 0 rfl
  have hcm := H.at1.ls_rd.caps.2
  obtain ⟨Q, hQ⟩ : ∃ Q, ms.length = Q := ⟨_, rfl⟩
  rw [hQ] at hcq hr ⊢
  replace hr := Lib.hid hr
  replace hN := Lib.hid hN
  replace hQ := Lib.hid hQ
  replace H := Lib.hid H
  go_enter Try.func23, Try.ntmps23
  go_wp2_with fail
  go_loopg [10] N (fun k iv wr => ∃ (j : Nat) (M : List Int), k + j = N ∧ iv = .int .i64 j ∧ Hid (M.length = N) ∧ Hid (M.take j = (loaded N ms).take j) ∧ Hid (Hs w0 wr (Blk p (.cells #[.slice Am N cm, .slice Ac s.came.length cc, .slice Ab s.blk.length cb, .int .u64 s.under, .int .u64 s.last, .bool s.over, .slice Ak s.cap.length ck] 68 (0, 0)) ::
    Ls (Enc.num .i64) 2 (.slice Am N cm) M :: Ls Enc.flag 4 (.slice Ac s.came.length cc) s.came :: Ls Enc.flag 4 (.slice Ab s.blk.length cb) s.blk :: Ls EOut 46 (.slice Ak s.cap.length ck) s.cap :: R)))
  case atStart => exact ⟨0, s.marks, rfl, rfl, hN, by show _ = _; simp, H⟩
  case round =>
    clear H k0
    obtain ⟨j, M, hk, rfl, hM, hT, H⟩ := hrel
    have hjN : j ≤ N := by omega
    replace hk := Lib.hid hk
    have k0 : wr.cell? ⟨p, 0, none⟩ = some (.slice Am N cm) := H.out.cellOf 0 rfl
    rcases Nat.lt_or_ge j N with hj | hj
    · have hj0 : (0 : Int) ≤ (j : Int) := by omega
      have hj1 : (j : Int) < (N : Int) := by omega
      obtain ⟨g, off, rfl⟩ := H.out.at1.ls_rd.some_ (by have := hM.out; omega)
      have hjM : j < M.length := by have := hM.out; omega
      have s0 : wr.cell? ⟨g, off + j, none⟩ = some (.int .i64 M[j]) := by have := H.out.at1.ls_rd.cell (i := j) (List.getElem?_eq_getElem hjM) 0 rfl; simpa [Enc.num] using this
      have f0 := H.out.at1.ls_frozen (off + j)
      have H1 := H.out.at1.ls_set rfl j hj minMark (.int .i64 minMark) rfl
      have hM1 : Hid ((M.set j minMark).length = N) := by show _ = _; rw [List.length_set]; exact hM.out
      rcases Nat.lt_or_ge j Q with hq | hq
      · have hq1 : (j : Int) < (Q : Int) := by omega
        have hM2 : Hid (((M.set j minMark).set j (ms.getD j minMark)).length = N) := by show _ = _; rw [List.length_set]; exact hM1.out
        have hT2 : Hid (((M.set j minMark).set j (ms.getD j minMark)).take (j + 1) = (loaded N ms).take (j + 1)) := by
          show _ = _
          rw [List.set_set, set_take _ _ _ hjM, hT.out, loaded_take _ _ _ hj]
        obtain ⟨gq, oq, rfl⟩ := (hr.out _ H.out.tail.tail.tail.tail.tail).some_ (by have := hQ.out; omega)
        have hx : ms[j]? = some (ms.getD j minMark) := by
          have hjq : j < ms.length := by have := hQ.out; omega
          rw [List.getElem?_eq_getElem hjq]
          simp [List.getD, hjq]
        generalize ms.getD j minMark = x at *
        have hcy : Hid (∀ w', Hs w0 w' R → w'.cell? ⟨gq, oq + j, none⟩ = some (.int .i64 x)) := fun w' h => by have := (hr.out w' h).cell hx 0 rfl; simpa [Enc.num] using this
        replace hx := Lib.hid hx
        have hmin : minMark = -9223372036854775808 := rfl
        rw [hmin] at H1 hM2 hT2
        replace H1 := Lib.hid H1
        have hjs : Hid (j < (M.set j (-9223372036854775808)).length) := by show _ < _; rw [List.length_set]; exact hjM
        clear H
        go_wp2_with fail
        clear s0 f0 k0
        generalize World.setCell wr _ _ = w1 at H1 ⊢
        replace H1 := H1.out
        obtain ⟨y0, hy0⟩ : ∃ y, (M.set j (-9223372036854775808))[j]? = some y := ⟨_, List.getElem?_eq_getElem hjs.out⟩
        have hd1 : Hid (w1.drew.cell? ⟨g, off + j, none⟩ = some (.int .i64 y0)) := by have := H1.drew.ls_rd.cell hy0 0 rfl; simpa [Enc.num, Hid] using this
        replace hy0 := Lib.hid hy0
        refine wp_region_left (S := fun w' : World => w'.cell? ⟨p, 0, none⟩ = some (.slice (some ⟨g, off, none⟩) N cm) ∧ w'.cell? ⟨gq, oq + j, none⟩ = some (.int .i64 x)) 10 mixed ?_
        have hS : (fun w' : World => w'.cell? ⟨p, 0, none⟩ = some (.slice (some ⟨g, off, none⟩) N cm) ∧ w'.cell? ⟨gq, oq + j, none⟩ = some (.int .i64 x)) w1.drew := by exact ⟨H1.drew.at1.cellOf 0 rfl, hcy.out _ H1.drew.tail.tail.tail.tail.tail⟩
        refine Left.pure (i := 0) (v := ?v5_0) rfl (by kernel_rfl) (fun _ _ _ h => h) (Or.inr hS) (Or.inl ⟨by kernel_rfl, fun w _ => ?hy5_0⟩) ?rest5_0
        case hy5_0 => (go_simp; try with_reducible rfl)
        try simp only [Act.put, List.setIfInBounds_toArray, List.set_cons_zero, List.set_cons_succ]
        refine Left.pure (i := 1) (v := ?v5_1) rfl (by kernel_rfl) (fun _ _ _ h => h) (Or.inr hS) (Or.inl ⟨by kernel_rfl, fun w _ => ?hy5_1⟩) ?rest5_1
        case hy5_1 => (go_simp; try with_reducible rfl)
        try simp only [Act.put, List.setIfInBounds_toArray, List.set_cons_zero, List.set_cons_succ]
        refine Left.pure (i := 2) (v := ?v5_2) rfl (by kernel_rfl) (fun _ _ _ h => h) (Or.inr hS) (Or.inl ⟨by kernel_rfl, fun w _ => ?hy5_2⟩) ?rest5_2
        case hy5_2 => (go_simp; try with_reducible rfl)
        try simp only [Act.put, List.setIfInBounds_toArray, List.set_cons_zero, List.set_cons_succ]
        refine Left.take (i := 3) (v := ?v5_3) rfl (by kernel_rfl) (fun _ _ _ h => h) hS (Or.inl ⟨by kernel_rfl, fun w hSw => ?hy5_3⟩) ?rest5_3
        case hy5_3 => ((try dsimp only at hSw); go_simp; try with_reducible rfl)
        try simp only [Act.put, List.setIfInBounds_toArray, List.set_cons_zero, List.set_cons_succ]
        refine Left.pure (i := 4) (v := ?v5_4) rfl (by kernel_rfl) (fun _ _ _ h => h) (Or.inr hS) (Or.inl ⟨by kernel_rfl, fun w _ => ?hy5_4⟩) ?rest5_4
        case hy5_4 => (go_simp; try with_reducible rfl)
        try simp only [Act.put, List.setIfInBounds_toArray, List.set_cons_zero, List.set_cons_succ]
        refine Left.pure (i := 5) (v := ?v5_5) rfl (by kernel_rfl) (fun _ _ _ h => h) (Or.inr hS) (Or.inl ⟨by kernel_rfl, fun w _ => ?hy5_5⟩) ?rest5_5
        case hy5_5 => (go_simp; try with_reducible rfl)
        try simp only [Act.put, List.setIfInBounds_toArray, List.set_cons_zero, List.set_cons_succ]
        refine Left.pure (i := 6) (v := ?v5_6) rfl (by kernel_rfl) (fun _ _ _ h => h) (Or.inr hS) (Or.inl ⟨by kernel_rfl, fun w _ => ?hy5_6⟩) ?rest5_6
        case hy5_6 => (go_simp; try with_reducible rfl)
        try simp only [Act.put, List.setIfInBounds_toArray, List.set_cons_zero, List.set_cons_succ]
        refine Left.pure (i := 7) (v := ?v5_7) rfl (by kernel_rfl) (fun _ _ _ h => h) (Or.inr hS) (Or.inl ⟨by kernel_rfl, fun w _ => ?hy5_7⟩) ?rest5_7
        case hy5_7 => (go_simp; try with_reducible rfl)
        try simp only [Act.put, List.setIfInBounds_toArray, List.set_cons_zero, List.set_cons_succ]
        refine Left.take (i := 8) (v := ?v5_8) rfl (by kernel_rfl) (fun _ _ _ h => h) hS (Or.inl ⟨by kernel_rfl, fun w hSw => ?hy5_8⟩) ?rest5_8
        case hy5_8 => ((try dsimp only at hSw); go_simp; try with_reducible rfl)
        try simp only [Act.put, List.setIfInBounds_toArray, List.set_cons_zero, List.set_cons_succ]
        refine Left.pure (i := 9) (v := ?v5_9) rfl (by kernel_rfl) (fun _ _ _ h => h) (Or.inr hS) (Or.inl ⟨by kernel_rfl, fun w _ => ?hy5_9⟩) ?rest5_9
        case hy5_9 => (go_simp; try with_reducible rfl)
        try simp only [Act.put, List.setIfInBounds_toArray, List.set_cons_zero, List.set_cons_succ]
        refine Left.run (i := 10) rfl (by kernel_rfl) (fun K hK => ?_)
        have f1 := H1.drew.ls_frozen (off + j)
        have d1 := hd1.out
        go_simp
        refine hK.out _ _ (Or.inl (by kernel_rfl)) ?_
        clear hK K
        try simp only [Act.put, List.setIfInBounds_toArray, List.set_cons_zero, List.set_cons_succ]
        refine Left.done (by kernel_rfl) ?_ _

        have H2 := H1.drew.ls_set rfl j hj x (.int .i64 x) rfl
        clear f1 d1
        go_wp2_with fail
        go_roundg (N - (j + 1))
        case measure => have := hk.out; omega
        case rel => exact ⟨j + 1, _, by have := hk.out; omega, by go_num, hM2, hT2, H2.at1⟩
      · have hq1 : decide ((j : Int) < (Q : Int)) = false := by rw [decide_eq_false_iff_not]; omega
        have hq2 : decide (j < Q) = false := by rw [decide_eq_false_iff_not]; omega
        have hT2 : Hid ((M.set j minMark).take (j + 1) = (loaded N ms).take (j + 1)) := by
          show _ = _
          rw [set_take _ _ _ hjM, hT.out, loaded_take _ _ _ hj]
          simp [List.getD, List.getElem?_eq_none (show ms.length ≤ j by have := hQ.out; omega)]
        replace H1 := Lib.hid H1
        clear hq
        go_wp2_with fail
        go_roundg (N - (j + 1))
        case measure => have := hk.out; omega
        case rel => exact ⟨j + 1, _, by have := hk.out; omega, by go_num, hM1, hT2, H1.out.at1⟩
    · have hj1 : decide ((j : Int) < (N : Int)) = false := by rw [decide_eq_false_iff_not]; omega
      have hj2 : decide (j < N) = false := by rw [decide_eq_false_iff_not]; omega
      have he : Hid (M = loaded N ms) := by
        have h := hT.out
        rw [List.take_of_length_le (by have := hM.out; omega), List.take_of_length_le (by simp [loaded]; omega)] at h
        exact h
      clear hj
      go_wp2_with fail
      have h5 := H.out
      rw [he.out] at h5
      refine (begin34 p ⟨loaded N ms, s.came, s.blk, s.under, s.last, s.over, s.cap⟩ _ w0 R (GateP.mk_ h5) 0 false).mono ?_
      rintro e w5 ⟨rfl, H6⟩
      go_wp2_with fail
      go_end0
      refine ⟨rfl, ?_⟩
      unfold Gt.load
      rw [hN.out]
      exact H6
end Go.Proofs.Ytlhgmfdmkckmhaa

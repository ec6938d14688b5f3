import Derived.Test.YtlpcofjmleghdaaSv
import Derived.IntWalk
import Derived.StillTailTactics
import Derived.WalkSpells
import Derived.Test.YtlpcofjmleghdaaProg
import Derived.Test.YtlpcofjmleghdaaLs
import Derived.Outline
import Derived.StillTailTactics
import Derived.Deep.DeepCutAuto
import Derived.Deep.CutBlock
import Derived.Deep.LoopGhost
import Derived.Deep.QuietTactic
import Derived.BigQuiet
import Derived.Deep.RegionHeld3
import Derived.Deep.RegionLaw
set_option linter.unusedVariables false
set_option linter.unusedSimpArgs false
namespace Go.Proofs.Ytlpcofjmleghdaa
open Go.RowKit
theorem mixed : Try.prog.follows .mixedOrders = true := by kernel_rfl
set_option maxRecDepth 100000
theorem zero41 (w : World) : (zeroValue 3).run Try.prog w = .ok (.int .i64 0) w := by kernel_rfl
theorem info41 : (Try.prog.info? 3).map (fun i => (i.zero, i.size, i.bytes)) = some (some (.int .i64 0), 1, 8) := by kernel_rfl
/-- slices.Delete. -/
theorem delete41 (v : Value) (xs : List (Int)) (i j : Int) (w w0 : World) (R : List HP) (H : Hs w0 w (Ls (Enc.num .i64) 3 v xs :: R)) (h0 : 0 ≤ i) (hij : i < j) (hj : j ≤ xs.length) (hb : xs.length * 8 ≤ 140737488355328) :
    Calls Try.prog 41 #[v, .int .i64 i, .int .i64 j] w fun e w' => ∃ A c m, m = xs.length - (j.toNat - i.toNat) ∧ e = .returned (.slice A m c) ∧ Hs w0 w' (Ls (Enc.num .i64) 3 (.slice A m c) (xs.take i.toNat ++ xs.drop j.toNat) :: R) := by
  obtain ⟨i, rfl⟩ := Int.eq_ofNat_of_zero_le h0
  obtain ⟨j, rfl⟩ := Int.eq_ofNat_of_zero_le (show 0 ≤ j by omega)
  simp only [Int.toNat_natCast]
  obtain ⟨A, c, rfl⟩ := H.ls_form
  obtain ⟨_, hn2, hn3⟩ := H.ls_rd.caps
  have hfin : Hid (flat (Enc.num .i64) (xs.take i) ++ flat (Enc.num .i64) (xs.drop j) = flat (Enc.num .i64) (xs.take i ++ xs.drop j) ∧ (xs.take i ++ xs.drop j).length = i + (xs.length - j)) := ⟨by rw [flat_append], by simp; omega⟩
  have hl1 : Hid ((xs.take i).length = i) := by show _ = _; rw [List.length_take]; omega
  have hl2 : Hid ((xs.drop j).length = xs.length - j) := by show _ = _; rw [List.length_drop]
  obtain ⟨A2, hA2, hcut⟩ := cut_drop Try.prog 27 3 1 Try.underlying27 (by kernel_rfl) A xs.length c j (by omega)
  have hr2 : Hid (Rd w.drew (.slice A2 (xs.length - j) (c - j)) (xs.length - j) (flat (Enc.num .i64) (xs.drop j))) := by
    have h := RdL.drop H.drew.ls_rd j (by omega)
    unfold RdL at h
    rw [hl2.out] at h
    have e := hA2.out
    exact e ▸ h
  have H2 := H.drew.ls_take i (by omega)
  unfold Ls at H2
  rw [hl1.out] at H2
  generalize hn : xs.length = n at *
  have hj0 : (0 : Int) ≤ (j : Int) := by omega
  have hic : (i : Int) ≤ (c : Int) := by omega
  have hjc : (j : Int) ≤ (c : Int) := by omega
  have hne : ((i : Int) == (j : Int)) = false := by rw [beq_eq_false_iff_ne]; omega
  have hlen : Hid ((flat (Enc.num .i64) (xs.drop j)).length = (n - j) * 1) := by show _ = _; rw [flat_length, List.length_drop, hn]; rfl
  have hone : Hid (∀ u ∈ flat (Enc.num .i64) (xs.drop j), u.oneCell' = true) := flat_oneCell _
  have hn := Lib.hid hn
  clear H
  go_enter Try.func41, Try.ntmps41
  go_wp2_with fail
  go_still_tail 6, mixed
  change wpList _ _ _ _ _ w.drew
  go_wp2_with (at_builtin; refine wpList_append_sl rfl (.tmp 22) (.tmp 25) 27 rfl 3 _ 1 8 Try.underlying27 info41 rfl (by decide) (by decide) rfl _ rfl H2 (n - j) (flat (Enc.num .i64) (xs.drop j)) hlen.out hr2.out hone.out (by omega) ?_)
  intro A' c' w1 H3 hin
  obtain ⟨rfl, rfl⟩ := hin (by omega)
  clear hcut hr2 H2 hlen hone hin
  generalize hm : i + (n - j) = m at *
  have hm1 : m ≤ n := by omega
  have hm := Lib.hid hm
  obtain ⟨A3, hA3, hcut3⟩ := cut_spare Try.prog 27 3 1 Try.underlying27 (by kernel_rfl) A' m c' n (by omega) (by omega)
  obtain ⟨w2, hclear, H4⟩ := run_clear_spare (P := Try.prog) H3 27 0 _ Try.underlying27 zero41 rfl (by intro u hu; simp [Value.cells] at hu; first | (subst hu; rfl) | (rcases hu with rfl | rfl <;> rfl) | (rcases hu with rfl | rfl | rfl <;> rfl) | (rcases hu with rfl | rfl | rfl | rfl <;> rfl)) (n - m) (by omega)
  rw [← hA3.out] at hclear
  go_wp2_with fail
  go_ret
  refine ⟨_, _, _, by have := hm.out; omega, rfl, ?_⟩
  unfold Ls
  rw [← hfin.out.1, hfin.out.2]
  exact H4
set_option maxRecDepth 100000
theorem zero39 (w : World) : (zeroValue 9).run Try.prog w = .ok (.string ⟨#[]⟩) w := by kernel_rfl
theorem info39 : (Try.prog.info? 9).map (fun i => (i.zero, i.size, i.bytes)) = some (some (.string ⟨#[]⟩), 1, 16) := by kernel_rfl
/-- slices.Delete. -/
theorem delete39 (v : Value) (xs : List (ByteArray)) (i j : Int) (w w0 : World) (R : List HP) (H : Hs w0 w (Ls (Enc.str) 9 v xs :: R)) (h0 : 0 ≤ i) (hij : i < j) (hj : j ≤ xs.length) (hb : xs.length * 16 ≤ 140737488355328) :
    Calls Try.prog 39 #[v, .int .i64 i, .int .i64 j] w fun e w' => ∃ A c m, m = xs.length - (j.toNat - i.toNat) ∧ e = .returned (.slice A m c) ∧ Hs w0 w' (Ls (Enc.str) 9 (.slice A m c) (xs.take i.toNat ++ xs.drop j.toNat) :: R) := by
  obtain ⟨i, rfl⟩ := Int.eq_ofNat_of_zero_le h0
  obtain ⟨j, rfl⟩ := Int.eq_ofNat_of_zero_le (show 0 ≤ j by omega)
  simp only [Int.toNat_natCast]
  obtain ⟨A, c, rfl⟩ := H.ls_form
  obtain ⟨_, hn2, hn3⟩ := H.ls_rd.caps
  have hfin : Hid (flat (Enc.str) (xs.take i) ++ flat (Enc.str) (xs.drop j) = flat (Enc.str) (xs.take i ++ xs.drop j) ∧ (xs.take i ++ xs.drop j).length = i + (xs.length - j)) := ⟨by rw [flat_append], by simp; omega⟩
  have hl1 : Hid ((xs.take i).length = i) := by show _ = _; rw [List.length_take]; omega
  have hl2 : Hid ((xs.drop j).length = xs.length - j) := by show _ = _; rw [List.length_drop]
  obtain ⟨A2, hA2, hcut⟩ := cut_drop Try.prog 36 9 1 Try.underlying36 (by kernel_rfl) A xs.length c j (by omega)
  have hr2 : Hid (Rd w.drew (.slice A2 (xs.length - j) (c - j)) (xs.length - j) (flat (Enc.str) (xs.drop j))) := by
    have h := RdL.drop H.drew.ls_rd j (by omega)
    unfold RdL at h
    rw [hl2.out] at h
    have e := hA2.out
    exact e ▸ h
  have H2 := H.drew.ls_take i (by omega)
  unfold Ls at H2
  rw [hl1.out] at H2
  generalize hn : xs.length = n at *
  have hj0 : (0 : Int) ≤ (j : Int) := by omega
  have hic : (i : Int) ≤ (c : Int) := by omega
  have hjc : (j : Int) ≤ (c : Int) := by omega
  have hne : ((i : Int) == (j : Int)) = false := by rw [beq_eq_false_iff_ne]; omega
  have hlen : Hid ((flat (Enc.str) (xs.drop j)).length = (n - j) * 1) := by show _ = _; rw [flat_length, List.length_drop, hn]; rfl
  have hone : Hid (∀ u ∈ flat (Enc.str) (xs.drop j), u.oneCell' = true) := flat_oneCell _
  have hn := Lib.hid hn
  clear H
  go_enter Try.func39, Try.ntmps39
  go_wp2_with fail
  go_still_tail 6, mixed
  change wpList _ _ _ _ _ w.drew
  go_wp2_with (at_builtin; refine wpList_append_sl rfl (.tmp 22) (.tmp 25) 36 rfl 9 _ 1 16 Try.underlying36 info39 rfl (by decide) (by decide) rfl _ rfl H2 (n - j) (flat (Enc.str) (xs.drop j)) hlen.out hr2.out hone.out (by omega) ?_)
  intro A' c' w1 H3 hin
  obtain ⟨rfl, rfl⟩ := hin (by omega)
  clear hcut hr2 H2 hlen hone hin
  generalize hm : i + (n - j) = m at *
  have hm1 : m ≤ n := by omega
  have hm := Lib.hid hm
  obtain ⟨A3, hA3, hcut3⟩ := cut_spare Try.prog 36 9 1 Try.underlying36 (by kernel_rfl) A' m c' n (by omega) (by omega)
  obtain ⟨w2, hclear, H4⟩ := run_clear_spare (P := Try.prog) H3 36 0 _ Try.underlying36 zero39 rfl (by intro u hu; simp [Value.cells] at hu; first | (subst hu; rfl) | (rcases hu with rfl | rfl <;> rfl) | (rcases hu with rfl | rfl | rfl <;> rfl) | (rcases hu with rfl | rfl | rfl | rfl <;> rfl)) (n - m) (by omega)
  rw [← hA3.out] at hclear
  go_wp2_with fail
  go_ret
  refine ⟨_, _, _, by have := hm.out; omega, rfl, ?_⟩
  unfold Ls
  rw [← hfin.out.1, hfin.out.2]
  exact H4
theorem infoc42 : (Try.prog.info? 3).map (fun i => (i.zero, i.size, i.bytes)) = some (some (.int .i64 0), 1, 8) := by kernel_rfl
/-- slices.Clone. -/
theorem clone42 (v : Value) (xs : List (Int)) (w w0 : World) (R : List HP) (H : Hs w0 w R) (hr : RdL (Enc.num .i64) w v xs) (hb : xs.length * 8 ≤ 140737488355328) :
    Calls Try.prog 42 #[v] w fun e w' => ∃ A c, e = .returned (.slice A xs.length c) ∧ Hs w0 w' (Ls (Enc.num .i64) 3 (.slice A xs.length c) xs :: R) := by
  obtain ⟨A, c, rfl⟩ := hr.form
  have hnil := fun w => Lib.run_eql_slice_nil (P := Try.prog) w 27 3 A xs.length c 0 0 Try.underlying27
  cases A with
  | none =>
    have hx : xs = [] := by
      obtain ⟨_, _, he, _, _, _, h4, _⟩ := hr
      injection he with ha _ _
      exact List.eq_nil_of_length_eq_zero (h4 ha.symm).1
    subst hx
    simp only [Option.isNone_none, List.length_nil] at hnil ⊢
    go_enter Try.func42, Try.ntmps42
    go_wp2_with fail
    go_ret
    exact ⟨none, 0, rfl, H.ls_nil _ _⟩
  | some a =>
    simp only [Option.isNone_some] at hnil
    go_enter Try.func42, Try.ntmps42
    go_wp2_with (at_builtin; refine wpList_appendL rfl (.tmp 5) (.tmp 6) 27 rfl 3 _ 1 8 Try.underlying27 infoc42 rfl (by decide) (by decide) rfl rfl _ rfl (H.ls_lit (Enc.num .i64) 3 [] #[] rfl 0 rfl (by omega)) (hr.alloc _) (by simpa using hb) ?_)
    intro A c' w1 H1
    go_wp2_with fail
    go_ret
    exact ⟨_, _, rfl, by simpa using H1⟩
end Go.Proofs.Ytlpcofjmleghdaa

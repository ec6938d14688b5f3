import Derived.Test.YtoiokmfdmpifiaaProg
import Derived.Test.YtoiokmfdmpifiaaLs
import Derived.Outline
import Derived.StillTailTactics
import Derived.Deep.DeepCutAuto
import Derived.Deep.CutBlock
import Derived.Deep.LoopGhost
import Derived.Deep.QuietTactic
import Derived.BigQuiet
import Derived.Deep.RegionHeld3
import Derived.Deep.RegionLaw
set_option linter.unusedVariables false
set_option linter.unusedSimpArgs false
namespace Go.Proofs.Ytoiokmfdmpifiaa
open Go.RowKit
theorem mixed : Try.prog.follows .mixedOrders = true := by kernel_rfl
set_option maxRecDepth 100000
theorem zero47 (w : World) : (zeroValue 9).run Try.prog w = .ok (.string ByteArray.empty) w := by kernel_rfl
theorem info47 : (Try.prog.info? 9).map (fun i => (i.zero, i.size, i.bytes)) = some (some (.string ByteArray.empty), 1, 16) := by kernel_rfl
/-- slices.Delete. -/
theorem delete47 (v : Value) (xs : List (ByteArray)) (i j : Int) (w w0 : World) (R : List HP) (H : Hs w0 w (Ls (Enc.str) 9 v xs :: R)) (h0 : 0 ≤ i) (hij : i < j) (hj : j ≤ xs.length) (hb : xs.length * 16 ≤ 140737488355328) :
    Calls Try.prog 47 #[v, .int .i64 i, .int .i64 j] w fun e w' => ∃ A c m, m = xs.length - (j.toNat - i.toNat) ∧ e = .returned (.slice A m c) ∧ Hs w0 w' (Ls (Enc.str) 9 (.slice A m c) (xs.take i.toNat ++ xs.drop j.toNat) :: R) := by
  obtain ⟨i, rfl⟩ := Int.eq_ofNat_of_zero_le h0
  obtain ⟨j, rfl⟩ := Int.eq_ofNat_of_zero_le (show 0 ≤ j by omega)
  simp only [Int.toNat_natCast]
  obtain ⟨A, c, rfl⟩ := H.ls_form
  obtain ⟨_, hn2, hn3⟩ := H.ls_rd.caps
  have hfin : Hid (flat (Enc.str) (xs.take i) ++ flat (Enc.str) (xs.drop j) = flat (Enc.str) (xs.take i ++ xs.drop j) ∧ (xs.take i ++ xs.drop j).length = i + (xs.length - j)) := ⟨by rw [flat_append], by simp; omega⟩
  have hl1 : Hid ((xs.take i).length = i) := by show _ = _; rw [List.length_take]; omega
  have hl2 : Hid ((xs.drop j).length = xs.length - j) := by show _ = _; rw [List.length_drop]
  obtain ⟨A2, hA2, hcut⟩ := cut_drop Try.prog 67 9 1 Try.underlying67 (by kernel_rfl) A xs.length c j (by omega)
  have hr2 : Hid (Rd w.drew (.slice A2 (xs.length - j) (c - j)) (xs.length - j) (flat (Enc.str) (xs.drop j))) := by
    have h := RdL.drop H.drew.ls_rd j (by omega)
    unfold RdL at h
    rw [hl2.out] at h
    have e := hA2.out
    exact e ▸ h
  have H2 := H.drew.ls_take i (by omega)
  unfold Ls at H2
  rw [hl1.out] at H2
  generalize hn : xs.length = n at *
  have hj0 : (0 : Int) ≤ (j : Int) := by omega
  have hic : (i : Int) ≤ (c : Int) := by omega
  have hjc : (j : Int) ≤ (c : Int) := by omega
  have hne : ((i : Int) == (j : Int)) = false := by rw [beq_eq_false_iff_ne]; omega
  have hlen : Hid ((flat (Enc.str) (xs.drop j)).length = (n - j) * 1) := by show _ = _; rw [flat_length, List.length_drop, hn]; rfl
  have hone : Hid (∀ u ∈ flat (Enc.str) (xs.drop j), u.oneCell' = true) := flat_oneCell _
  have hn := Lib.hid hn
  clear H
  go_enter Try.func47, Try.ntmps47
  go_wp2_with fail
  go_still_tail 6, mixed
  change wpList _ _ _ _ _ w.drew
  go_wp2_with (at_builtin; refine wpList_append_sl rfl (.tmp 22) (.tmp 25) 67 rfl 9 _ 1 16 Try.underlying67 info47 rfl (by decide) (by decide) rfl _ rfl H2 (n - j) (flat (Enc.str) (xs.drop j)) hlen.out hr2.out hone.out (by omega) ?_)
  intro A' c' w1 H3 hin
  obtain ⟨rfl, rfl⟩ := hin (by omega)
  clear hcut hr2 H2 hlen hone hin
  generalize hm : i + (n - j) = m at *
  have hm1 : m ≤ n := by omega
  have hm := Lib.hid hm
  obtain ⟨A3, hA3, hcut3⟩ := cut_spare Try.prog 67 9 1 Try.underlying67 (by kernel_rfl) A' m c' n (by omega) (by omega)
  obtain ⟨w2, hclear, H4⟩ := run_clear_spare (P := Try.prog) H3 67 0 _ Try.underlying67 zero47 rfl (by intro u hu; simp [Value.cells] at hu; first | (subst hu; rfl) | (rcases hu with rfl | rfl <;> rfl) | (rcases hu with rfl | rfl | rfl <;> rfl) | (rcases hu with rfl | rfl | rfl | rfl <;> rfl)) (n - m) (by omega)
  rw [← hA3.out] at hclear
  go_wp2_with fail
  go_ret
  refine ⟨_, _, _, by have := hm.out; omega, rfl, ?_⟩
  unfold Ls
  rw [← hfin.out.1, hfin.out.2]
  exact H4
set_option maxRecDepth 100000
theorem zero54 (w : World) : (zeroValue 3).run Try.prog w = .ok (.int .i64 0) w := by kernel_rfl
theorem info54 : (Try.prog.info? 3).map (fun i => (i.zero, i.size, i.bytes)) = some (some (.int .i64 0), 1, 8) := by kernel_rfl
/-- slices.Delete. -/
theorem delete54 (v : Value) (xs : List (Int)) (i j : Int) (w w0 : World) (R : List HP) (H : Hs w0 w (Ls (Enc.num .i64) 3 v xs :: R)) (h0 : 0 ≤ i) (hij : i < j) (hj : j ≤ xs.length) (hb : xs.length * 8 ≤ 140737488355328) :
    Calls Try.prog 54 #[v, .int .i64 i, .int .i64 j] w fun e w' => ∃ A c m, m = xs.length - (j.toNat - i.toNat) ∧ e = .returned (.slice A m c) ∧ Hs w0 w' (Ls (Enc.num .i64) 3 (.slice A m c) (xs.take i.toNat ++ xs.drop j.toNat) :: R) := by
  obtain ⟨i, rfl⟩ := Int.eq_ofNat_of_zero_le h0
  obtain ⟨j, rfl⟩ := Int.eq_ofNat_of_zero_le (show 0 ≤ j by omega)
  simp only [Int.toNat_natCast]
  obtain ⟨A, c, rfl⟩ := H.ls_form
  obtain ⟨_, hn2, hn3⟩ := H.ls_rd.caps
  have hfin : Hid (flat (Enc.num .i64) (xs.take i) ++ flat (Enc.num .i64) (xs.drop j) = flat (Enc.num .i64) (xs.take i ++ xs.drop j) ∧ (xs.take i ++ xs.drop j).length = i + (xs.length - j)) := ⟨by rw [flat_append], by simp; omega⟩
  have hl1 : Hid ((xs.take i).length = i) := by show _ = _; rw [List.length_take]; omega
  have hl2 : Hid ((xs.drop j).length = xs.length - j) := by show _ = _; rw [List.length_drop]
  obtain ⟨A2, hA2, hcut⟩ := cut_drop Try.prog 48 3 1 Try.underlying48 (by kernel_rfl) A xs.length c j (by omega)
  have hr2 : Hid (Rd w.drew (.slice A2 (xs.length - j) (c - j)) (xs.length - j) (flat (Enc.num .i64) (xs.drop j))) := by
    have h := RdL.drop H.drew.ls_rd j (by omega)
    unfold RdL at h
    rw [hl2.out] at h
    have e := hA2.out
    exact e ▸ h
  have H2 := H.drew.ls_take i (by omega)
  unfold Ls at H2
  rw [hl1.out] at H2
  generalize hn : xs.length = n at *
  have hj0 : (0 : Int) ≤ (j : Int) := by omega
  have hic : (i : Int) ≤ (c : Int) := by omega
  have hjc : (j : Int) ≤ (c : Int) := by omega
  have hne : ((i : Int) == (j : Int)) = false := by rw [beq_eq_false_iff_ne]; omega
  have hlen : Hid ((flat (Enc.num .i64) (xs.drop j)).length = (n - j) * 1) := by show _ = _; rw [flat_length, List.length_drop, hn]; rfl
  have hone : Hid (∀ u ∈ flat (Enc.num .i64) (xs.drop j), u.oneCell' = true) := flat_oneCell _
  have hn := Lib.hid hn
  clear H
  go_enter Try.func54, Try.ntmps54
  go_wp2_with fail
  go_still_tail 6, mixed
  change wpList _ _ _ _ _ w.drew
  go_wp2_with (at_builtin; refine wpList_append_sl rfl (.tmp 22) (.tmp 25) 48 rfl 3 _ 1 8 Try.underlying48 info54 rfl (by decide) (by decide) rfl _ rfl H2 (n - j) (flat (Enc.num .i64) (xs.drop j)) hlen.out hr2.out hone.out (by omega) ?_)
  intro A' c' w1 H3 hin
  obtain ⟨rfl, rfl⟩ := hin (by omega)
  clear hcut hr2 H2 hlen hone hin
  generalize hm : i + (n - j) = m at *
  have hm1 : m ≤ n := by omega
  have hm := Lib.hid hm
  obtain ⟨A3, hA3, hcut3⟩ := cut_spare Try.prog 48 3 1 Try.underlying48 (by kernel_rfl) A' m c' n (by omega) (by omega)
  obtain ⟨w2, hclear, H4⟩ := run_clear_spare (P := Try.prog) H3 48 0 _ Try.underlying48 zero54 rfl (by intro u hu; simp [Value.cells] at hu; first | (subst hu; rfl) | (rcases hu with rfl | rfl <;> rfl) | (rcases hu with rfl | rfl | rfl <;> rfl) | (rcases hu with rfl | rfl | rfl | rfl <;> rfl)) (n - m) (by omega)
  rw [← hA3.out] at hclear
  go_wp2_with fail
  go_ret
  refine ⟨_, _, _, by have := hm.out; omega, rfl, ?_⟩
  unfold Ls
  rw [← hfin.out.1, hfin.out.2]
  exact H4
set_option maxRecDepth 100000
theorem zero71 (w : World) : (zeroValue 64).run Try.prog w = .ok (.agg #[.int .u64 0, .int .u64 0, .string ByteArray.empty]) w := by kernel_rfl
theorem info71 : (Try.prog.info? 64).map (fun i => (i.zero, i.size, i.bytes)) = some (some (.agg #[.int .u64 0, .int .u64 0, .string ByteArray.empty]), 3, 32) := by kernel_rfl
/-- slices.Delete. -/
theorem delete71 (v : Value) (xs : List (Int × Int × ByteArray)) (i j : Int) (w w0 : World) (R : List HP) (H : Hs w0 w (Ls ((Enc.num .u64).pair ((Enc.num .u64).pair Enc.str)) 64 v xs :: R)) (h0 : 0 ≤ i) (hij : i < j) (hj : j ≤ xs.length) (hb : xs.length * 32 ≤ 140737488355328) :
    Calls Try.prog 71 #[v, .int .i64 i, .int .i64 j] w fun e w' => ∃ A c m, m = xs.length - (j.toNat - i.toNat) ∧ e = .returned (.slice A m c) ∧ Hs w0 w' (Ls ((Enc.num .u64).pair ((Enc.num .u64).pair Enc.str)) 64 (.slice A m c) (xs.take i.toNat ++ xs.drop j.toNat) :: R) := by
  obtain ⟨i, rfl⟩ := Int.eq_ofNat_of_zero_le h0
  obtain ⟨j, rfl⟩ := Int.eq_ofNat_of_zero_le (show 0 ≤ j by omega)
  simp only [Int.toNat_natCast]
  obtain ⟨A, c, rfl⟩ := H.ls_form
  obtain ⟨_, hn2, hn3⟩ := H.ls_rd.caps
  have hfin : Hid (flat ((Enc.num .u64).pair ((Enc.num .u64).pair Enc.str)) (xs.take i) ++ flat ((Enc.num .u64).pair ((Enc.num .u64).pair Enc.str)) (xs.drop j) = flat ((Enc.num .u64).pair ((Enc.num .u64).pair Enc.str)) (xs.take i ++ xs.drop j) ∧ (xs.take i ++ xs.drop j).length = i + (xs.length - j)) := ⟨by rw [flat_append], by simp; omega⟩
  have hl1 : Hid ((xs.take i).length = i) := by show _ = _; rw [List.length_take]; omega
  have hl2 : Hid ((xs.drop j).length = xs.length - j) := by show _ = _; rw [List.length_drop]
  obtain ⟨A2, hA2, hcut⟩ := cut_drop Try.prog 91 64 3 Try.underlying91 (by kernel_rfl) A xs.length c j (by omega)
  have hr2 : Hid (Rd w.drew (.slice A2 (xs.length - j) (c - j)) (xs.length - j) (flat ((Enc.num .u64).pair ((Enc.num .u64).pair Enc.str)) (xs.drop j))) := by
    have h := RdL.drop H.drew.ls_rd j (by omega)
    unfold RdL at h
    rw [hl2.out] at h
    have e := hA2.out
    exact e ▸ h
  have H2 := H.drew.ls_take i (by omega)
  unfold Ls at H2
  rw [hl1.out] at H2
  generalize hn : xs.length = n at *
  have hj0 : (0 : Int) ≤ (j : Int) := by omega
  have hic : (i : Int) ≤ (c : Int) := by omega
  have hjc : (j : Int) ≤ (c : Int) := by omega
  have hne : ((i : Int) == (j : Int)) = false := by rw [beq_eq_false_iff_ne]; omega
  have hlen : Hid ((flat ((Enc.num .u64).pair ((Enc.num .u64).pair Enc.str)) (xs.drop j)).length = (n - j) * 3) := by show _ = _; rw [flat_length, List.length_drop, hn]; rfl
  have hone : Hid (∀ u ∈ flat ((Enc.num .u64).pair ((Enc.num .u64).pair Enc.str)) (xs.drop j), u.oneCell' = true) := flat_oneCell _
  have hn := Lib.hid hn
  clear H
  go_enter Try.func71, Try.ntmps71
  go_wp2_with fail
  go_still_tail 6, mixed
  change wpList _ _ _ _ _ w.drew
  go_wp2_with (at_builtin; refine wpList_append_sl rfl (.tmp 22) (.tmp 25) 91 rfl 64 _ 3 32 Try.underlying91 info71 rfl (by decide) (by decide) rfl _ rfl H2 (n - j) (flat ((Enc.num .u64).pair ((Enc.num .u64).pair Enc.str)) (xs.drop j)) hlen.out hr2.out hone.out (by omega) ?_)
  intro A' c' w1 H3 hin
  obtain ⟨rfl, rfl⟩ := hin (by omega)
  clear hcut hr2 H2 hlen hone hin
  generalize hm : i + (n - j) = m at *
  have hm1 : m ≤ n := by omega
  have hm := Lib.hid hm
  obtain ⟨A3, hA3, hcut3⟩ := cut_spare Try.prog 91 64 3 Try.underlying91 (by kernel_rfl) A' m c' n (by omega) (by omega)
  obtain ⟨w2, hclear, H4⟩ := run_clear_spare (P := Try.prog) H3 91 0 _ Try.underlying91 zero71 rfl (by intro u hu; simp [Value.cells] at hu; first | (subst hu; rfl) | (rcases hu with rfl | rfl <;> rfl) | (rcases hu with rfl | rfl | rfl <;> rfl) | (rcases hu with rfl | rfl | rfl | rfl <;> rfl)) (n - m) (by omega)
  rw [← hA3.out] at hclear
  go_wp2_with fail
  go_ret
  refine ⟨_, _, _, by have := hm.out; omega, rfl, ?_⟩
  unfold Ls
  rw [← hfin.out.1, hfin.out.2]
  exact H4
set_option maxRecDepth 100000
theorem zero74 (w : World) : (zeroValue 78).run Try.prog w = .ok (.agg #[.int .u64 0, .int .u64 0, .int .i64 0]) w := by kernel_rfl
theorem info74 : (Try.prog.info? 78).map (fun i => (i.zero, i.size, i.bytes)) = some (some (.agg #[.int .u64 0, .int .u64 0, .int .i64 0]), 3, 24) := by kernel_rfl
/-- slices.Delete. -/
theorem delete74 (v : Value) (xs : List (Int × Int × Int)) (i j : Int) (w w0 : World) (R : List HP) (H : Hs w0 w (Ls ((Enc.num .u64).pair ((Enc.num .u64).pair (Enc.num .i64))) 78 v xs :: R)) (h0 : 0 ≤ i) (hij : i < j) (hj : j ≤ xs.length) (hb : xs.length * 24 ≤ 140737488355328) :
    Calls Try.prog 74 #[v, .int .i64 i, .int .i64 j] w fun e w' => ∃ A c m, m = xs.length - (j.toNat - i.toNat) ∧ e = .returned (.slice A m c) ∧ Hs w0 w' (Ls ((Enc.num .u64).pair ((Enc.num .u64).pair (Enc.num .i64))) 78 (.slice A m c) (xs.take i.toNat ++ xs.drop j.toNat) :: R) := by
  obtain ⟨i, rfl⟩ := Int.eq_ofNat_of_zero_le h0
  obtain ⟨j, rfl⟩ := Int.eq_ofNat_of_zero_le (show 0 ≤ j by omega)
  simp only [Int.toNat_natCast]
  obtain ⟨A, c, rfl⟩ := H.ls_form
  obtain ⟨_, hn2, hn3⟩ := H.ls_rd.caps
  have hfin : Hid (flat ((Enc.num .u64).pair ((Enc.num .u64).pair (Enc.num .i64))) (xs.take i) ++ flat ((Enc.num .u64).pair ((Enc.num .u64).pair (Enc.num .i64))) (xs.drop j) = flat ((Enc.num .u64).pair ((Enc.num .u64).pair (Enc.num .i64))) (xs.take i ++ xs.drop j) ∧ (xs.take i ++ xs.drop j).length = i + (xs.length - j)) := ⟨by rw [flat_append], by simp; omega⟩
  have hl1 : Hid ((xs.take i).length = i) := by show _ = _; rw [List.length_take]; omega
  have hl2 : Hid ((xs.drop j).length = xs.length - j) := by show _ = _; rw [List.length_drop]
  obtain ⟨A2, hA2, hcut⟩ := cut_drop Try.prog 88 78 3 Try.underlying88 (by kernel_rfl) A xs.length c j (by omega)
  have hr2 : Hid (Rd w.drew (.slice A2 (xs.length - j) (c - j)) (xs.length - j) (flat ((Enc.num .u64).pair ((Enc.num .u64).pair (Enc.num .i64))) (xs.drop j))) := by
    have h := RdL.drop H.drew.ls_rd j (by omega)
    unfold RdL at h
    rw [hl2.out] at h
    have e := hA2.out
    exact e ▸ h
  have H2 := H.drew.ls_take i (by omega)
  unfold Ls at H2
  rw [hl1.out] at H2
  generalize hn : xs.length = n at *
  have hj0 : (0 : Int) ≤ (j : Int) := by omega
  have hic : (i : Int) ≤ (c : Int) := by omega
  have hjc : (j : Int) ≤ (c : Int) := by omega
  have hne : ((i : Int) == (j : Int)) = false := by rw [beq_eq_false_iff_ne]; omega
  have hlen : Hid ((flat ((Enc.num .u64).pair ((Enc.num .u64).pair (Enc.num .i64))) (xs.drop j)).length = (n - j) * 3) := by show _ = _; rw [flat_length, List.length_drop, hn]; rfl
  have hone : Hid (∀ u ∈ flat ((Enc.num .u64).pair ((Enc.num .u64).pair (Enc.num .i64))) (xs.drop j), u.oneCell' = true) := flat_oneCell _
  have hn := Lib.hid hn
  clear H
  go_enter Try.func74, Try.ntmps74
  go_wp2_with fail
  go_still_tail 6, mixed
  change wpList _ _ _ _ _ w.drew
  go_wp2_with (at_builtin; refine wpList_append_sl rfl (.tmp 22) (.tmp 25) 88 rfl 78 _ 3 24 Try.underlying88 info74 rfl (by decide) (by decide) rfl _ rfl H2 (n - j) (flat ((Enc.num .u64).pair ((Enc.num .u64).pair (Enc.num .i64))) (xs.drop j)) hlen.out hr2.out hone.out (by omega) ?_)
  intro A' c' w1 H3 hin
  obtain ⟨rfl, rfl⟩ := hin (by omega)
  clear hcut hr2 H2 hlen hone hin
  generalize hm : i + (n - j) = m at *
  have hm1 : m ≤ n := by omega
  have hm := Lib.hid hm
  obtain ⟨A3, hA3, hcut3⟩ := cut_spare Try.prog 88 78 3 Try.underlying88 (by kernel_rfl) A' m c' n (by omega) (by omega)
  obtain ⟨w2, hclear, H4⟩ := run_clear_spare (P := Try.prog) H3 88 0 _ Try.underlying88 zero74 rfl (by intro u hu; simp [Value.cells] at hu; first | (subst hu; rfl) | (rcases hu with rfl | rfl <;> rfl) | (rcases hu with rfl | rfl | rfl <;> rfl) | (rcases hu with rfl | rfl | rfl | rfl <;> rfl)) (n - m) (by omega)
  rw [← hA3.out] at hclear
  go_wp2_with fail
  go_ret
  refine ⟨_, _, _, by have := hm.out; omega, rfl, ?_⟩
  unfold Ls
  rw [← hfin.out.1, hfin.out.2]
  exact H4
end Go.Proofs.Ytoiokmfdmpifiaa

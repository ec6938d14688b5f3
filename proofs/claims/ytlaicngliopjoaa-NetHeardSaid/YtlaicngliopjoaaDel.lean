import Derived.Test.YtlaicngliopjoaaProg
import Derived.Test.YtlaicngliopjoaaLs
import Derived.Outline
import Derived.StillTailTactics
import Derived.Deep.DeepCutAuto
import Derived.Deep.CutBlock
import Derived.Deep.LoopGhost
import Derived.Deep.QuietTactic
import Derived.BigQuiet
import Derived.Deep.RegionHeld3
import Derived.Deep.RegionLaw
set_option linter.unusedVariables false
set_option linter.unusedSimpArgs false
namespace Go.Proofs.Ytlaicngliopjoaa
open Go.RowKit
theorem mixed : Try.prog.follows .mixedOrders = true := by kernel_rfl
theorem zero29 (w : World) : (zeroValue 64).run Try.prog w = .ok (.agg #[.int .i64 0, .int .i64 0]) w := by kernel_rfl
theorem info29 : (Try.prog.info? 64).map (fun i => (i.zero, i.size, i.bytes)) = some (some (.agg #[.int .i64 0, .int .i64 0]), 2, 16) := by kernel_rfl
/-- slices.Delete. -/
theorem delete29 (v : Value) (xs : List (Int × Int)) (i j : Int) (w w0 : World) (R : List HP) (H : Hs w0 w (Ls (Enc.pair (Enc.num .i64) (Enc.num .i64)) 64 v xs :: R)) (h0 : 0 ≤ i) (hij : i < j) (hj : j ≤ xs.length) (hb : xs.length * 16 ≤ 140737488355328) :
    Calls Try.prog 29 #[v, .int .i64 i, .int .i64 j] w fun e w' => ∃ A c m, m = xs.length - (j.toNat - i.toNat) ∧ e = .returned (.slice A m c) ∧ Hs w0 w' (Ls (Enc.pair (Enc.num .i64) (Enc.num .i64)) 64 (.slice A m c) (xs.take i.toNat ++ xs.drop j.toNat) :: R) := by
  obtain ⟨i, rfl⟩ := Int.eq_ofNat_of_zero_le h0
  obtain ⟨j, rfl⟩ := Int.eq_ofNat_of_zero_le (show 0 ≤ j by omega)
  simp only [Int.toNat_natCast]
  obtain ⟨A, c, rfl⟩ := H.ls_form
  obtain ⟨_, hn2, hn3⟩ := H.ls_rd.caps
  have hfin : Hid (flat (Enc.pair (Enc.num .i64) (Enc.num .i64)) (xs.take i) ++ flat (Enc.pair (Enc.num .i64) (Enc.num .i64)) (xs.drop j) = flat (Enc.pair (Enc.num .i64) (Enc.num .i64)) (xs.take i ++ xs.drop j) ∧ (xs.take i ++ xs.drop j).length = i + (xs.length - j)) := ⟨by rw [flat_append], by simp; omega⟩
  have hl1 : Hid ((xs.take i).length = i) := by show _ = _; rw [List.length_take]; omega
  have hl2 : Hid ((xs.drop j).length = xs.length - j) := by show _ = _; rw [List.length_drop]
  obtain ⟨A2, hA2, hcut⟩ := cut_drop Try.prog 60 64 2 Try.underlying60 (by kernel_rfl) A xs.length c j (by omega)
  have hr2 : Hid (Rd w.drew (.slice A2 (xs.length - j) (c - j)) (xs.length - j) (flat (Enc.pair (Enc.num .i64) (Enc.num .i64)) (xs.drop j))) := by
    have h := RdL.drop H.drew.ls_rd j (by omega)
    unfold RdL at h
    rw [hl2.out] at h
    have e := hA2.out
    exact e ▸ h
  have H2 := H.drew.ls_take i (by omega)
  unfold Ls at H2
  rw [hl1.out] at H2
  generalize hn : xs.length = n at *
  have hj0 : (0 : Int) ≤ (j : Int) := by omega
  have hic : (i : Int) ≤ (c : Int) := by omega
  have hjc : (j : Int) ≤ (c : Int) := by omega
  have hne : ((i : Int) == (j : Int)) = false := by rw [beq_eq_false_iff_ne]; omega
  have hlen : Hid ((flat (Enc.pair (Enc.num .i64) (Enc.num .i64)) (xs.drop j)).length = (n - j) * 2) := by show _ = _; rw [flat_length, List.length_drop, hn]; rfl
  have hone : Hid (∀ u ∈ flat (Enc.pair (Enc.num .i64) (Enc.num .i64)) (xs.drop j), u.oneCell' = true) := flat_oneCell _
  have hn := Lib.hid hn
  clear H
  go_enter Try.func29, Try.ntmps29
  go_wp2_with fail
  go_still_tail 6, mixed
  change wpList _ _ _ _ _ w.drew
  go_wp2_with (at_builtin; refine wpList_append_sl rfl (.tmp 22) (.tmp 25) 60 rfl 64 _ 2 16 Try.underlying60 info29 rfl (by decide) (by decide) rfl _ rfl H2 (n - j) (flat (Enc.pair (Enc.num .i64) (Enc.num .i64)) (xs.drop j)) hlen.out hr2.out hone.out (by omega) ?_)
  intro A' c' w1 H3 hin
  obtain ⟨rfl, rfl⟩ := hin (by omega)
  clear hcut hr2 H2 hlen hone hin
  generalize hm : i + (n - j) = m at *
  have hm1 : m ≤ n := by omega
  have hm := Lib.hid hm
  obtain ⟨A3, hA3, hcut3⟩ := cut_spare Try.prog 60 64 2 Try.underlying60 (by kernel_rfl) A' m c' n (by omega) (by omega)
  obtain ⟨w2, hclear, H4⟩ := run_clear_spare (P := Try.prog) H3 60 0 _ Try.underlying60 zero29 rfl (by intro u hu; simp [Value.cells] at hu; first | (subst hu; rfl) | (rcases hu with rfl | rfl <;> rfl) | (rcases hu with rfl | rfl | rfl <;> rfl) | (rcases hu with rfl | rfl | rfl | rfl <;> rfl)) (n - m) (by omega)
  rw [← hA3.out] at hclear
  go_wp2_with fail
  go_ret
  refine ⟨_, _, _, by have := hm.out; omega, rfl, ?_⟩
  unfold Ls
  rw [← hfin.out.1, hfin.out.2]
  exact H4
theorem zero30 (w : World) : (zeroValue 3).run Try.prog w = .ok (.int .i64 0) w := by kernel_rfl
theorem info30 : (Try.prog.info? 3).map (fun i => (i.zero, i.size, i.bytes)) = some (some (.int .i64 0), 1, 8) := by kernel_rfl
/-- slices.Delete. -/
theorem delete30 (v : Value) (xs : List (Int)) (i j : Int) (w w0 : World) (R : List HP) (H : Hs w0 w (Ls (Enc.num .i64) 3 v xs :: R)) (h0 : 0 ≤ i) (hij : i < j) (hj : j ≤ xs.length) (hb : xs.length * 8 ≤ 140737488355328) :
    Calls Try.prog 30 #[v, .int .i64 i, .int .i64 j] w fun e w' => ∃ A c m, m = xs.length - (j.toNat - i.toNat) ∧ e = .returned (.slice A m c) ∧ Hs w0 w' (Ls (Enc.num .i64) 3 (.slice A m c) (xs.take i.toNat ++ xs.drop j.toNat) :: R) := by
  obtain ⟨i, rfl⟩ := Int.eq_ofNat_of_zero_le h0
  obtain ⟨j, rfl⟩ := Int.eq_ofNat_of_zero_le (show 0 ≤ j by omega)
  simp only [Int.toNat_natCast]
  obtain ⟨A, c, rfl⟩ := H.ls_form
  obtain ⟨_, hn2, hn3⟩ := H.ls_rd.caps
  have hfin : Hid (flat (Enc.num .i64) (xs.take i) ++ flat (Enc.num .i64) (xs.drop j) = flat (Enc.num .i64) (xs.take i ++ xs.drop j) ∧ (xs.take i ++ xs.drop j).length = i + (xs.length - j)) := ⟨by rw [flat_append], by simp; omega⟩
  have hl1 : Hid ((xs.take i).length = i) := by show _ = _; rw [List.length_take]; omega
  have hl2 : Hid ((xs.drop j).length = xs.length - j) := by show _ = _; rw [List.length_drop]
  obtain ⟨A2, hA2, hcut⟩ := cut_drop Try.prog 26 3 1 Try.underlying26 (by kernel_rfl) A xs.length c j (by omega)
  have hr2 : Hid (Rd w.drew (.slice A2 (xs.length - j) (c - j)) (xs.length - j) (flat (Enc.num .i64) (xs.drop j))) := by
    have h := RdL.drop H.drew.ls_rd j (by omega)
    unfold RdL at h
    rw [hl2.out] at h
    have e := hA2.out
    exact e ▸ h
  have H2 := H.drew.ls_take i (by omega)
  unfold Ls at H2
  rw [hl1.out] at H2
  generalize hn : xs.length = n at *
  have hj0 : (0 : Int) ≤ (j : Int) := by omega
  have hic : (i : Int) ≤ (c : Int) := by omega
  have hjc : (j : Int) ≤ (c : Int) := by omega
  have hne : ((i : Int) == (j : Int)) = false := by rw [beq_eq_false_iff_ne]; omega
  have hlen : Hid ((flat (Enc.num .i64) (xs.drop j)).length = (n - j) * 1) := by show _ = _; rw [flat_length, List.length_drop, hn]; rfl
  have hone : Hid (∀ u ∈ flat (Enc.num .i64) (xs.drop j), u.oneCell' = true) := flat_oneCell _
  have hn := Lib.hid hn
  clear H
  go_enter Try.func30, Try.ntmps30
  go_wp2_with fail
  go_still_tail 6, mixed
  change wpList _ _ _ _ _ w.drew
  go_wp2_with (at_builtin; refine wpList_append_sl rfl (.tmp 22) (.tmp 25) 26 rfl 3 _ 1 8 Try.underlying26 info30 rfl (by decide) (by decide) rfl _ rfl H2 (n - j) (flat (Enc.num .i64) (xs.drop j)) hlen.out hr2.out hone.out (by omega) ?_)
  intro A' c' w1 H3 hin
  obtain ⟨rfl, rfl⟩ := hin (by omega)
  clear hcut hr2 H2 hlen hone hin
  generalize hm : i + (n - j) = m at *
  have hm1 : m ≤ n := by omega
  have hm := Lib.hid hm
  obtain ⟨A3, hA3, hcut3⟩ := cut_spare Try.prog 26 3 1 Try.underlying26 (by kernel_rfl) A' m c' n (by omega) (by omega)
  obtain ⟨w2, hclear, H4⟩ := run_clear_spare (P := Try.prog) H3 26 0 _ Try.underlying26 zero30 rfl (by intro u hu; simp [Value.cells] at hu; first | (subst hu; rfl) | (rcases hu with rfl | rfl <;> rfl) | (rcases hu with rfl | rfl | rfl <;> rfl) | (rcases hu with rfl | rfl | rfl | rfl <;> rfl)) (n - m) (by omega)
  rw [← hA3.out] at hclear
  go_wp2_with fail
  go_ret
  refine ⟨_, _, _, by have := hm.out; omega, rfl, ?_⟩
  unfold Ls
  rw [← hfin.out.1, hfin.out.2]
  exact H4
theorem zero32 (w : World) : (zeroValue 9).run Try.prog w = .ok (.string ByteArray.empty) w := by kernel_rfl
theorem info32 : (Try.prog.info? 9).map (fun i => (i.zero, i.size, i.bytes)) = some (some (.string ByteArray.empty), 1, 16) := by kernel_rfl
/-- slices.Delete. -/
theorem delete32 (v : Value) (xs : List (ByteArray)) (i j : Int) (w w0 : World) (R : List HP) (H : Hs w0 w (Ls (Enc.str) 9 v xs :: R)) (h0 : 0 ≤ i) (hij : i < j) (hj : j ≤ xs.length) (hb : xs.length * 16 ≤ 140737488355328) :
    Calls Try.prog 32 #[v, .int .i64 i, .int .i64 j] w fun e w' => ∃ A c m, m = xs.length - (j.toNat - i.toNat) ∧ e = .returned (.slice A m c) ∧ Hs w0 w' (Ls (Enc.str) 9 (.slice A m c) (xs.take i.toNat ++ xs.drop j.toNat) :: R) := by
  obtain ⟨i, rfl⟩ := Int.eq_ofNat_of_zero_le h0
  obtain ⟨j, rfl⟩ := Int.eq_ofNat_of_zero_le (show 0 ≤ j by omega)
  simp only [Int.toNat_natCast]
  obtain ⟨A, c, rfl⟩ := H.ls_form
  obtain ⟨_, hn2, hn3⟩ := H.ls_rd.caps
  have hfin : Hid (flat (Enc.str) (xs.take i) ++ flat (Enc.str) (xs.drop j) = flat (Enc.str) (xs.take i ++ xs.drop j) ∧ (xs.take i ++ xs.drop j).length = i + (xs.length - j)) := ⟨by rw [flat_append], by simp; omega⟩
  have hl1 : Hid ((xs.take i).length = i) := by show _ = _; rw [List.length_take]; omega
  have hl2 : Hid ((xs.drop j).length = xs.length - j) := by show _ = _; rw [List.length_drop]
  obtain ⟨A2, hA2, hcut⟩ := cut_drop Try.prog 70 9 1 Try.underlying70 (by kernel_rfl) A xs.length c j (by omega)
  have hr2 : Hid (Rd w.drew (.slice A2 (xs.length - j) (c - j)) (xs.length - j) (flat (Enc.str) (xs.drop j))) := by
    have h := RdL.drop H.drew.ls_rd j (by omega)
    unfold RdL at h
    rw [hl2.out] at h
    have e := hA2.out
    exact e ▸ h
  have H2 := H.drew.ls_take i (by omega)
  unfold Ls at H2
  rw [hl1.out] at H2
  generalize hn : xs.length = n at *
  have hj0 : (0 : Int) ≤ (j : Int) := by omega
  have hic : (i : Int) ≤ (c : Int) := by omega
  have hjc : (j : Int) ≤ (c : Int) := by omega
  have hne : ((i : Int) == (j : Int)) = false := by rw [beq_eq_false_iff_ne]; omega
  have hlen : Hid ((flat (Enc.str) (xs.drop j)).length = (n - j) * 1) := by show _ = _; rw [flat_length, List.length_drop, hn]; rfl
  have hone : Hid (∀ u ∈ flat (Enc.str) (xs.drop j), u.oneCell' = true) := flat_oneCell _
  have hn := Lib.hid hn
  clear H
  go_enter Try.func32, Try.ntmps32
  go_wp2_with fail
  go_still_tail 6, mixed
  change wpList _ _ _ _ _ w.drew
  go_wp2_with (at_builtin; refine wpList_append_sl rfl (.tmp 22) (.tmp 25) 70 rfl 9 _ 1 16 Try.underlying70 info32 rfl (by decide) (by decide) rfl _ rfl H2 (n - j) (flat (Enc.str) (xs.drop j)) hlen.out hr2.out hone.out (by omega) ?_)
  intro A' c' w1 H3 hin
  obtain ⟨rfl, rfl⟩ := hin (by omega)
  clear hcut hr2 H2 hlen hone hin
  generalize hm : i + (n - j) = m at *
  have hm1 : m ≤ n := by omega
  have hm := Lib.hid hm
  obtain ⟨A3, hA3, hcut3⟩ := cut_spare Try.prog 70 9 1 Try.underlying70 (by kernel_rfl) A' m c' n (by omega) (by omega)
  obtain ⟨w2, hclear, H4⟩ := run_clear_spare (P := Try.prog) H3 70 0 _ Try.underlying70 zero32 rfl (by intro u hu; simp [Value.cells] at hu; first | (subst hu; rfl) | (rcases hu with rfl | rfl <;> rfl) | (rcases hu with rfl | rfl | rfl <;> rfl) | (rcases hu with rfl | rfl | rfl | rfl <;> rfl)) (n - m) (by omega)
  rw [← hA3.out] at hclear
  go_wp2_with fail
  go_ret
  refine ⟨_, _, _, by have := hm.out; omega, rfl, ?_⟩
  unfold Ls
  rw [← hfin.out.1, hfin.out.2]
  exact H4
theorem zero33 (w : World) : (zeroValue 78).run Try.prog w = .ok (.agg #[.int .i64 0, .string ByteArray.empty]) w := by kernel_rfl
theorem info33 : (Try.prog.info? 78).map (fun i => (i.zero, i.size, i.bytes)) = some (some (.agg #[.int .i64 0, .string ByteArray.empty]), 2, 24) := by kernel_rfl
/-- slices.Delete. -/
theorem delete33 (v : Value) (xs : List (Int × ByteArray)) (i j : Int) (w w0 : World) (R : List HP) (H : Hs w0 w (Ls (Enc.pair (Enc.num .i64) Enc.str) 78 v xs :: R)) (h0 : 0 ≤ i) (hij : i < j) (hj : j ≤ xs.length) (hb : xs.length * 24 ≤ 140737488355328) :
    Calls Try.prog 33 #[v, .int .i64 i, .int .i64 j] w fun e w' => ∃ A c m, m = xs.length - (j.toNat - i.toNat) ∧ e = .returned (.slice A m c) ∧ Hs w0 w' (Ls (Enc.pair (Enc.num .i64) Enc.str) 78 (.slice A m c) (xs.take i.toNat ++ xs.drop j.toNat) :: R) := by
  obtain ⟨i, rfl⟩ := Int.eq_ofNat_of_zero_le h0
  obtain ⟨j, rfl⟩ := Int.eq_ofNat_of_zero_le (show 0 ≤ j by omega)
  simp only [Int.toNat_natCast]
  obtain ⟨A, c, rfl⟩ := H.ls_form
  obtain ⟨_, hn2, hn3⟩ := H.ls_rd.caps
  have hfin : Hid (flat (Enc.pair (Enc.num .i64) Enc.str) (xs.take i) ++ flat (Enc.pair (Enc.num .i64) Enc.str) (xs.drop j) = flat (Enc.pair (Enc.num .i64) Enc.str) (xs.take i ++ xs.drop j) ∧ (xs.take i ++ xs.drop j).length = i + (xs.length - j)) := ⟨by rw [flat_append], by simp; omega⟩
  have hl1 : Hid ((xs.take i).length = i) := by show _ = _; rw [List.length_take]; omega
  have hl2 : Hid ((xs.drop j).length = xs.length - j) := by show _ = _; rw [List.length_drop]
  obtain ⟨A2, hA2, hcut⟩ := cut_drop Try.prog 73 78 2 Try.underlying73 (by kernel_rfl) A xs.length c j (by omega)
  have hr2 : Hid (Rd w.drew (.slice A2 (xs.length - j) (c - j)) (xs.length - j) (flat (Enc.pair (Enc.num .i64) Enc.str) (xs.drop j))) := by
    have h := RdL.drop H.drew.ls_rd j (by omega)
    unfold RdL at h
    rw [hl2.out] at h
    have e := hA2.out
    exact e ▸ h
  have H2 := H.drew.ls_take i (by omega)
  unfold Ls at H2
  rw [hl1.out] at H2
  generalize hn : xs.length = n at *
  have hj0 : (0 : Int) ≤ (j : Int) := by omega
  have hic : (i : Int) ≤ (c : Int) := by omega
  have hjc : (j : Int) ≤ (c : Int) := by omega
  have hne : ((i : Int) == (j : Int)) = false := by rw [beq_eq_false_iff_ne]; omega
  have hlen : Hid ((flat (Enc.pair (Enc.num .i64) Enc.str) (xs.drop j)).length = (n - j) * 2) := by show _ = _; rw [flat_length, List.length_drop, hn]; rfl
  have hone : Hid (∀ u ∈ flat (Enc.pair (Enc.num .i64) Enc.str) (xs.drop j), u.oneCell' = true) := flat_oneCell _
  have hn := Lib.hid hn
  clear H
  go_enter Try.func33, Try.ntmps33
  go_wp2_with fail
  go_still_tail 6, mixed
  change wpList _ _ _ _ _ w.drew
  go_wp2_with (at_builtin; refine wpList_append_sl rfl (.tmp 22) (.tmp 25) 73 rfl 78 _ 2 24 Try.underlying73 info33 rfl (by decide) (by decide) rfl _ rfl H2 (n - j) (flat (Enc.pair (Enc.num .i64) Enc.str) (xs.drop j)) hlen.out hr2.out hone.out (by omega) ?_)
  intro A' c' w1 H3 hin
  obtain ⟨rfl, rfl⟩ := hin (by omega)
  clear hcut hr2 H2 hlen hone hin
  generalize hm : i + (n - j) = m at *
  have hm1 : m ≤ n := by omega
  have hm := Lib.hid hm
  obtain ⟨A3, hA3, hcut3⟩ := cut_spare Try.prog 73 78 2 Try.underlying73 (by kernel_rfl) A' m c' n (by omega) (by omega)
  obtain ⟨w2, hclear, H4⟩ := run_clear_spare (P := Try.prog) H3 73 0 _ Try.underlying73 zero33 rfl (by intro u hu; simp [Value.cells] at hu; first | (subst hu; rfl) | (rcases hu with rfl | rfl <;> rfl) | (rcases hu with rfl | rfl | rfl <;> rfl) | (rcases hu with rfl | rfl | rfl | rfl <;> rfl)) (n - m) (by omega)
  rw [← hA3.out] at hclear
  go_wp2_with fail
  go_ret
  refine ⟨_, _, _, by have := hm.out; omega, rfl, ?_⟩
  unfold Ls
  rw [← hfin.out.1, hfin.out.2]
  exact H4
end Go.Proofs.Ytlaicngliopjoaa

import Derived.Test.YtoiokmfdmpifiaaRg2
import Derived.Test.YtoiokmfdmpifiaaPn
import Derived.Test.YtoiokmfdmpifiaaSt
import Derived.Test.YtoiokmfdmpifiaaProg
import Derived.Test.YtoiokmfdmpifiaaLs
import Derived.Outline
import Derived.StillTailTactics
import Derived.Deep.DeepCutAuto
import Derived.Deep.CutBlock
import Derived.Deep.LoopGhost
import Derived.Deep.QuietTactic
import Derived.BigQuiet
import Derived.Deep.RegionHeld3
import Derived.Deep.RegionLaw
set_option linter.unusedVariables false
set_option linter.unusedSimpArgs false
namespace Go.Proofs.Ytoiokmfdmpifiaa
open Go.RowKit
set_option maxRecDepth 100000 in
set_option maxHeartbeats 4000000 in
theorem ref_send32 (p : Nat) (s : Ch Int) (b0 : Int) (bs : List Int) (w w0 : World) (R : List HP) (H : Hs w0 w (RefC p s :: R)) (hs : s.Ok) (hl : s.back = b0 :: bs) (hc : 0 < s.cred) :
    Calls Try.prog 32 #[.pointer (some ⟨p, 0, none⟩)] w fun e w' => e = .returned (.bool true) ∧ Hs w0 w' (RefC p { s with back := bs, mov := s.mov ++ [(s.ep, s.out, b0)], out := IntKind.u64.wrap (s.out + 1) } :: R) := by
  have HC := Lib.hid H
  obtain ⟨A0, k0, A1, k1, A2, k2, A3, k3, H⟩ := RefC.open_ H
  have hmb := hs.m
  have hbb := hs.b
  rw [hl] at H hbb
  simp only [List.length_cons] at H hbb
  have hnz : ((bs.length : Int) + 1 == 0) = false := by rw [beq_eq_false_iff_ne]; omega
  obtain ⟨g, off, rfl⟩ := H.at1.ls_rd.some_ (by simp)
  have hk0 := H.at1.ls_rd.caps.2.1
  have hk3 := H.at4.ls_rd.caps.2.1
  have c0 : w.cell? ⟨p, 0, none⟩ = some (.slice (some ⟨g, off, none⟩) (bs.length + 1) k0) := H.cellOf 0 rfl
  have hcd : decide (s.cred ≤ 0) = false := by simp; omega
  have H0 := Lib.hid H
  clear H hl
  go_enter Try.func32, Try.ntmps32
  go_wp2_with fail
  refine (ref_credits39 p s _ _ _ HC.out hs).mono ?_
  rintro e w1 ⟨rfl, m, rfl⟩
  go_wp2_with fail
  replace H0 := H0.out.drewN m
  clear c0 HC hcd
  generalize w.drewN m = w1 at *
  have c0 : w1.cell? ⟨p, 0, none⟩ = some (.slice (some ⟨g, off, none⟩) (bs.length + 1) k0) := H0.cellOf 0 rfl
  have c1 : w1.cell? ⟨p, 1, none⟩ = some (.slice A1 s.mov.length k1) := H0.cellOf 1 rfl
  have cb : w1.cell? ⟨g, off, none⟩ = some (.int .i64 b0) := H0.at1.ls_rd.cell (i := 0) rfl 0 rfl
  have hk : (1 : Int) ≤ (k0 : Int) := by omega
  obtain ⟨B, hB, hcut⟩ := cut_tail Try.prog 48 3 1 Try.underlying48 (by kernel_rfl) (some ⟨g, off, none⟩) bs.length k0
  have hl1 : (s.mov.map (·.2.2)).length = s.mov.length := by simp
  have hl1 := Lib.hid hl1
  refine wp_region_left (S := fun w' : World => w'.cell? ⟨p, 0, none⟩ = some (.slice (some ⟨g, off, none⟩) (bs.length + 1) k0) ∧ w'.cell? ⟨p, 1, none⟩ = some (.slice A1 s.mov.length k1) ∧ w'.cell? ⟨g, off, none⟩ = some (.int .i64 b0)) 20 mixed ?_
  have hS : (fun w' : World => w'.cell? ⟨p, 0, none⟩ = some (.slice (some ⟨g, off, none⟩) (bs.length + 1) k0) ∧ w'.cell? ⟨p, 1, none⟩ = some (.slice A1 s.mov.length k1) ∧ w'.cell? ⟨g, off, none⟩ = some (.int .i64 b0)) w1.drew := by exact ⟨H0.drew.cellOf 0 rfl, H0.drew.cellOf 1 rfl, H0.drew.at1.ls_rd.cell (i := 0) rfl 0 rfl⟩
  refine Left.pure (i := 0) (v := ?v3_0) rfl (by kernel_rfl) (fun _ _ _ h => h) (Or.inr hS) (Or.inl ⟨by rfl, fun w _ => ?hy3_0⟩) ?rest3_0
  case hy3_0 => (go_simp; try with_reducible rfl)
  try simp only [Act.put, List.setIfInBounds_toArray, List.set_cons_zero, List.set_cons_succ]
  refine Left.pure (i := 1) (v := ?v3_1) rfl (by kernel_rfl) (fun _ _ _ h => h) (Or.inr hS) (Or.inl ⟨by rfl, fun w _ => ?hy3_1⟩) ?rest3_1
  case hy3_1 => (go_simp; try with_reducible rfl)
  try simp only [Act.put, List.setIfInBounds_toArray, List.set_cons_zero, List.set_cons_succ]
  refine Left.pure (i := 2) (v := ?v3_2) rfl (by kernel_rfl) (fun _ _ _ h => h) (Or.inr hS) (Or.inl ⟨by rfl, fun w _ => ?hy3_2⟩) ?rest3_2
  case hy3_2 => (go_simp; try with_reducible rfl)
  try simp only [Act.put, List.setIfInBounds_toArray, List.set_cons_zero, List.set_cons_succ]
  refine Left.pure (i := 3) (v := ?v3_3) rfl (by kernel_rfl) (fun _ _ _ h => h) (Or.inr hS) (Or.inl ⟨by rfl, fun w _ => ?hy3_3⟩) ?rest3_3
  case hy3_3 => (go_simp; try with_reducible rfl)
  try simp only [Act.put, List.setIfInBounds_toArray, List.set_cons_zero, List.set_cons_succ]
  refine Left.pure (i := 4) (v := ?v3_4) rfl (by kernel_rfl) (fun _ _ _ h => h) (Or.inr hS) (Or.inl ⟨by rfl, fun w _ => ?hy3_4⟩) ?rest3_4
  case hy3_4 => (go_simp; try with_reducible rfl)
  try simp only [Act.put, List.setIfInBounds_toArray, List.set_cons_zero, List.set_cons_succ]
  refine Left.take (i := 5) (v := ?v3_5) rfl (by kernel_rfl) (fun _ _ _ h => h) hS (Or.inl ⟨by rfl, fun w hSw => ?hy3_5⟩) ?rest3_5
  case hy3_5 => ((try dsimp only at hSw); go_simp; try with_reducible rfl)
  try simp only [Act.put, List.setIfInBounds_toArray, List.set_cons_zero, List.set_cons_succ]
  refine Left.pure (i := 6) (v := ?v3_6) rfl (by kernel_rfl) (fun _ _ _ h => h) (Or.inr hS) (Or.inl ⟨by rfl, fun w _ => ?hy3_6⟩) ?rest3_6
  case hy3_6 => (go_simp; try with_reducible rfl)
  try simp only [Act.put, List.setIfInBounds_toArray, List.set_cons_zero, List.set_cons_succ]
  refine Left.pure (i := 7) (v := ?v3_7) rfl (by kernel_rfl) (fun _ _ _ h => h) (Or.inr hS) (Or.inl ⟨by rfl, fun w _ => ?hy3_7⟩) ?rest3_7
  case hy3_7 => (go_simp; try with_reducible rfl)
  try simp only [Act.put, List.setIfInBounds_toArray, List.set_cons_zero, List.set_cons_succ]
  refine Left.pure (i := 8) (v := ?v3_8) rfl (by kernel_rfl) (fun _ _ _ h => h) (Or.inr hS) (Or.inl ⟨by rfl, fun w _ => ?hy3_8⟩) ?rest3_8
  case hy3_8 => (go_simp; try with_reducible rfl)
  try simp only [Act.put, List.setIfInBounds_toArray, List.set_cons_zero, List.set_cons_succ]
  refine Left.take (i := 9) (v := ?v3_9) rfl (by kernel_rfl) (fun _ _ _ h => h) hS (Or.inl ⟨by rfl, fun w hSw => ?hy3_9⟩) ?rest3_9
  case hy3_9 => ((try dsimp only at hSw); go_simp; try with_reducible rfl)
  try simp only [Act.put, List.setIfInBounds_toArray, List.set_cons_zero, List.set_cons_succ]
  refine Left.pure (i := 10) (v := ?v3_10) rfl (by kernel_rfl) (fun _ _ _ h => h) (Or.inr hS) (Or.inl ⟨by rfl, fun w _ => ?hy3_10⟩) ?rest3_10
  case hy3_10 => (go_simp; try with_reducible rfl)
  try simp only [Act.put, List.setIfInBounds_toArray, List.set_cons_zero, List.set_cons_succ]
  refine Left.take (i := 11) (v := ?v3_11) rfl (by kernel_rfl) (fun _ _ _ h => h) hS (Or.inl ⟨by rfl, fun w hSw => ?hy3_11⟩) ?rest3_11
  case hy3_11 => ((try dsimp only at hSw); go_simp; try with_reducible rfl)
  try simp only [Act.put, List.setIfInBounds_toArray, List.set_cons_zero, List.set_cons_succ]
  refine Left.pure (i := 13) (v := ?v3_13) rfl (by kernel_rfl) (fun _ _ _ h => h) (Or.inr hS) (Or.inl ⟨by rfl, fun w _ => ?hy3_13⟩) ?rest3_13
  case hy3_13 => (go_simp; try with_reducible rfl)
  try simp only [Act.put, List.setIfInBounds_toArray, List.set_cons_zero, List.set_cons_succ]
  refine Left.pure (i := 14) (v := ?v3_14) rfl (by kernel_rfl) (fun _ _ _ h => h) (Or.inr hS) (Or.inl ⟨by rfl, fun w _ => ?hy3_14⟩) ?rest3_14
  case hy3_14 => (go_simp; try with_reducible rfl)
  try simp only [Act.put, List.setIfInBounds_toArray, List.set_cons_zero, List.set_cons_succ]
  refine Left.pure (i := 15) (v := ?v3_15) rfl (by kernel_rfl) (fun _ _ _ h => h) (Or.inr hS) (Or.inl ⟨by rfl, fun w _ => ?hy3_15⟩) ?rest3_15
  case hy3_15 => (go_simp; try with_reducible rfl)
  try simp only [Act.put, List.setIfInBounds_toArray, List.set_cons_zero, List.set_cons_succ]
  refine Left.take (i := 16) (v := ?v3_16) rfl (by kernel_rfl) (fun _ _ _ h => h) hS (Or.inl ⟨by rfl, fun w hSw => ?hy3_16⟩) ?rest3_16
  case hy3_16 => ((try dsimp only at hSw); go_simp; try with_reducible rfl)
  try simp only [Act.put, List.setIfInBounds_toArray, List.set_cons_zero, List.set_cons_succ]
  refine Left.pure (i := 17) (v := ?v3_17) rfl (by kernel_rfl) (fun _ _ _ h => h) (Or.inr hS) (Or.inl ⟨by rfl, fun w _ => ?hy3_17⟩) ?rest3_17
  case hy3_17 => (go_simp; try with_reducible rfl)
  try simp only [Act.put, List.setIfInBounds_toArray, List.set_cons_zero, List.set_cons_succ]
  refine Left.run (i := 12) rfl (by kernel_rfl) (fun K hK => ?_)
  go_simp
  go_at_call 65
  refine (add65 _ (s.mov.map (·.2.2)) b0 _ w0 _ H0.drew.at2 (by rw [hl1.out]; omega)).mono ?_
  rintro e w2 ⟨A4, k4, rfl, H1⟩
  rw [hl1.out] at H1
  go_simp
  replace hS : (fun w' : World => w'.cell? ⟨p, 0, none⟩ = some (.slice (some ⟨g, off, none⟩) (bs.length + 1) k0) ∧ w'.cell? ⟨p, 1, none⟩ = some (.slice A1 s.mov.length k1) ∧ w'.cell? ⟨g, off, none⟩ = some (.int .i64 b0)) w2 := by exact ⟨H1.at1.cellOf 0 rfl, H1.at1.cellOf 1 rfl, H1.at2.ls_rd.cell (i := 0) rfl 0 rfl⟩
  refine hK.out _ _ (Or.inr hS) ?_
  clear hK K
  try simp only [Act.put, List.setIfInBounds_toArray, List.set_cons_zero, List.set_cons_succ]
  refine Left.pure (i := 18) (v := ?v3_18) rfl (by kernel_rfl) (fun _ _ _ h => h) (Or.inr hS) (Or.inl ⟨by rfl, fun w _ => ?hy3_18⟩) ?rest3_18
  case hy3_18 => (go_simp; try with_reducible rfl)
  try simp only [Act.put, List.setIfInBounds_toArray, List.set_cons_zero, List.set_cons_succ]
  refine Left.pure (i := 19) (v := ?v3_19) rfl (by kernel_rfl) (fun _ _ _ h => h) (Or.inr hS) (Or.inl ⟨by rfl, fun w _ => ?hy3_19⟩) ?rest3_19
  case hy3_19 => (go_simp; try with_reducible rfl)
  try simp only [Act.put, List.setIfInBounds_toArray, List.set_cons_zero, List.set_cons_succ]
  refine Left.run (i := 20) rfl (by kernel_rfl) (fun K hK => ?_)
  have f1 := H1.at1.frozenOf 1
  have d1 := H1.at1.cellOf 1 rfl
  go_simp
  refine hK.out _ _ (Or.inl (by kernel_rfl)) ?_
  clear hK K
  try simp only [Act.put, List.setIfInBounds_toArray, List.set_cons_zero, List.set_cons_succ]
  refine Left.pure (i := 21) (v := ?v3_21) rfl (by kernel_rfl) (fun _ _ _ h => h) (Or.inl (by kernel_rfl)) (Or.inl ⟨by rfl, fun w _ => ?hy3_21⟩) ?rest3_21
  case hy3_21 => (go_simp; try with_reducible rfl)
  try simp only [Act.put, List.setIfInBounds_toArray, List.set_cons_zero, List.set_cons_succ]
  refine Left.pure (i := 22) (v := ?v3_22) rfl (by kernel_rfl) (fun _ _ _ h => h) (Or.inl (by kernel_rfl)) (Or.inl ⟨by rfl, fun w _ => ?hy3_22⟩) ?rest3_22
  case hy3_22 => (go_simp; try with_reducible rfl)
  try simp only [Act.put, List.setIfInBounds_toArray, List.set_cons_zero, List.set_cons_succ]
  refine Left.run (i := 23) rfl (by kernel_rfl) (fun K hK => ?_)
  have f0 := H1.at1.frozenOf 0
  have d0 := H1.at1.cellOf 0 rfl
  go_simp
  refine hK.out _ _ (Or.inl (by kernel_rfl)) ?_
  clear hK K
  try simp only [Act.put, List.setIfInBounds_toArray, List.set_cons_zero, List.set_cons_succ]
  refine Left.done (by kernel_rfl) ?_ _

  have H2 := ((H1.at1.setCellTo 1 (.slice A4 (s.mov.length + 1) k4) #[.slice (some ⟨g, off, none⟩) (bs.length + 1) k0, .slice A4 (s.mov.length + 1) k4, .slice A2 s.wait.length k2, .slice A3 s.mov.length k3, .int .u64 s.out, .int .u64 s.ep, .int .i64 s.cr, .int .u64 s.inn, .int .i64 s.gr] rfl).setCellTo 0 (.slice B bs.length (k0 - 1)) #[.slice B bs.length (k0 - 1), .slice A4 (s.mov.length + 1) k4, .slice A2 s.wait.length k2, .slice A3 s.mov.length k3, .int .u64 s.out, .int .u64 s.ep, .int .i64 s.cr, .int .u64 s.inn, .int .i64 s.gr] rfl)
  have H3 := (H2.at2.ls_tail (n := bs.length + 1) (m := bs.length) rfl rfl hB)
  clear hcut hB H1 H2 H0 c0 c1 cb f0 f1 hS H
  go_wp2_with fail
  generalize World.setCell _ _ _ = w4 at *
  replace H3 := H3.at1
  have hk3' : (s.mov.length : Int) ≤ (k3 : Int) := by omega
  have hcut := cut_cap Try.prog 56 26 1 Try.underlying56 (by kernel_rfl) A3 s.mov.length k3 hk3
  have hl2 : Hid ((s.mov.map (·.2.1)).length = s.mov.length) := by show _ = _; simp
  refine wp_region_left (S := fun w' : World => w'.cell? ⟨p, 3, none⟩ = some (.slice A3 s.mov.length k3) ∧ w'.cell? ⟨p, 4, none⟩ = some (.int .u64 s.out) ∧ p < w'.heap.size) 24 mixed ?_
  have hS : (fun w' : World => w'.cell? ⟨p, 3, none⟩ = some (.slice A3 s.mov.length k3) ∧ w'.cell? ⟨p, 4, none⟩ = some (.int .u64 s.out) ∧ p < w'.heap.size) w4.drew := by exact ⟨H3.drew.cellOf 3 rfl, H3.drew.cellOf 4 rfl, H3.drew.lt⟩
  refine Left.pure (i := 0) (v := ?v4_0) rfl (by kernel_rfl) (fun _ _ _ h => h) (Or.inr hS) (Or.inl ⟨by rfl, fun w _ => ?hy4_0⟩) ?rest4_0
  case hy4_0 => (go_simp; try with_reducible rfl)
  try simp only [Act.put, List.setIfInBounds_toArray, List.set_cons_zero, List.set_cons_succ]
  refine Left.pure (i := 1) (v := ?v4_1) rfl (by kernel_rfl) (fun _ _ _ h => h) (Or.inr hS) (Or.inl ⟨by rfl, fun w _ => ?hy4_1⟩) ?rest4_1
  case hy4_1 => (go_simp; try with_reducible rfl)
  try simp only [Act.put, List.setIfInBounds_toArray, List.set_cons_zero, List.set_cons_succ]
  refine Left.pure (i := 2) (v := ?v4_2) rfl (by kernel_rfl) (fun _ _ _ h => h) (Or.inr hS) (Or.inl ⟨by rfl, fun w _ => ?hy4_2⟩) ?rest4_2
  case hy4_2 => (go_simp; try with_reducible rfl)
  try simp only [Act.put, List.setIfInBounds_toArray, List.set_cons_zero, List.set_cons_succ]
  refine Left.pure (i := 3) (v := ?v4_3) rfl (by kernel_rfl) (fun _ _ _ h => h) (Or.inr hS) (Or.inl ⟨by rfl, fun w _ => ?hy4_3⟩) ?rest4_3
  case hy4_3 => (go_simp; try with_reducible rfl)
  try simp only [Act.put, List.setIfInBounds_toArray, List.set_cons_zero, List.set_cons_succ]
  refine Left.take (i := 4) (v := ?v4_4) rfl (by kernel_rfl) (fun _ _ _ h => h) hS (Or.inl ⟨by rfl, fun w hSw => ?hy4_4⟩) ?rest4_4
  case hy4_4 => ((try dsimp only at hSw); go_simp; try with_reducible rfl)
  try simp only [Act.put, List.setIfInBounds_toArray, List.set_cons_zero, List.set_cons_succ]
  refine Left.pure (i := 5) (v := ?v4_5) rfl (by kernel_rfl) (fun _ _ _ h => h) (Or.inr hS) (Or.inl ⟨by rfl, fun w _ => ?hy4_5⟩) ?rest4_5
  case hy4_5 => (go_simp; try with_reducible rfl)
  try simp only [Act.put, List.setIfInBounds_toArray, List.set_cons_zero, List.set_cons_succ]
  refine Left.pure (i := 6) (v := ?v4_6) rfl (by kernel_rfl) (fun _ _ _ h => h) (Or.inr hS) (Or.inl ⟨by rfl, fun w _ => ?hy4_6⟩) ?rest4_6
  case hy4_6 => (go_simp; try with_reducible rfl)
  try simp only [Act.put, List.setIfInBounds_toArray, List.set_cons_zero, List.set_cons_succ]
  refine Left.pure (i := 7) (v := ?v4_7) rfl (by kernel_rfl) (fun _ _ _ h => h) (Or.inr hS) (Or.inl ⟨by rfl, fun w _ => ?hy4_7⟩) ?rest4_7
  case hy4_7 => (go_simp; try with_reducible rfl)
  try simp only [Act.put, List.setIfInBounds_toArray, List.set_cons_zero, List.set_cons_succ]
  refine Left.take (i := 8) (v := ?v4_8) rfl (by kernel_rfl) (fun _ _ _ h => h) hS (Or.inl ⟨by rfl, fun w hSw => ?hy4_8⟩) ?rest4_8
  case hy4_8 => ((try dsimp only at hSw); go_simp; try with_reducible rfl)
  try simp only [Act.put, List.setIfInBounds_toArray, List.set_cons_zero, List.set_cons_succ]
  refine Left.pure (i := 9) (v := ?v4_9) rfl (by kernel_rfl) (fun _ _ _ h => h) (Or.inr hS) (Or.inl ⟨by rfl, fun w _ => ?hy4_9⟩) ?rest4_9
  case hy4_9 => (go_simp; try with_reducible rfl)
  try simp only [Act.put, List.setIfInBounds_toArray, List.set_cons_zero, List.set_cons_succ]
  refine Left.pure (i := 10) (v := ?v4_10) rfl (by kernel_rfl) (fun _ _ _ h => h) (Or.inr hS) (Or.inl ⟨by rfl, fun w _ => ?hy4_10⟩) ?rest4_10
  case hy4_10 => (go_simp; try with_reducible rfl)
  try simp only [Act.put, List.setIfInBounds_toArray, List.set_cons_zero, List.set_cons_succ]
  refine Left.pure (i := 11) (v := ?v4_11) rfl (by kernel_rfl) (fun _ _ _ h => h) (Or.inr hS) (Or.inl ⟨by rfl, fun w _ => ?hy4_11⟩) ?rest4_11
  case hy4_11 => (go_simp; try with_reducible rfl)
  try simp only [Act.put, List.setIfInBounds_toArray, List.set_cons_zero, List.set_cons_succ]
  refine Left.pure (i := 12) (v := ?v4_12) rfl (by kernel_rfl) (fun _ _ _ h => h) (Or.inr hS) (Or.inl ⟨by rfl, fun w _ => ?hy4_12⟩) ?rest4_12
  case hy4_12 => (go_simp; try with_reducible rfl)
  try simp only [Act.put, List.setIfInBounds_toArray, List.set_cons_zero, List.set_cons_succ]
  refine Left.take (i := 13) (v := ?v4_13) rfl (by kernel_rfl) (fun _ _ _ h => h) hS (Or.inl ⟨by rfl, fun w hSw => ?hy4_13⟩) ?rest4_13
  case hy4_13 => ((try dsimp only at hSw); go_simp; try with_reducible rfl)
  try simp only [Act.put, List.setIfInBounds_toArray, List.set_cons_zero, List.set_cons_succ]
  refine Left.pure (i := 14) (v := ?v4_14) rfl (by kernel_rfl) (fun _ _ _ h => h) (Or.inr hS) (Or.inl ⟨by rfl, fun w _ => ?hy4_14⟩) ?rest4_14
  case hy4_14 => (go_simp; try with_reducible rfl)
  try simp only [Act.put, List.setIfInBounds_toArray, List.set_cons_zero, List.set_cons_succ]
  refine Left.pure (i := 15) (v := ?v4_15) rfl (by kernel_rfl) (fun _ _ _ h => h) (Or.inr hS) (Or.inl ⟨by rfl, fun w _ => ?hy4_15⟩) ?rest4_15
  case hy4_15 => (go_simp; try with_reducible rfl)
  try simp only [Act.put, List.setIfInBounds_toArray, List.set_cons_zero, List.set_cons_succ]
  refine Left.pure (i := 16) (v := ?v4_16) rfl (by kernel_rfl) (fun _ _ _ h => h) (Or.inr hS) (Or.inl ⟨by rfl, fun w _ => ?hy4_16⟩) ?rest4_16
  case hy4_16 => (go_simp; try with_reducible rfl)
  try simp only [Act.put, List.setIfInBounds_toArray, List.set_cons_zero, List.set_cons_succ]
  refine Left.pure (i := 17) (v := ?v4_17) rfl (by kernel_rfl) (fun _ _ _ h => h) (Or.inr hS) (Or.inl ⟨by rfl, fun w _ => ?hy4_17⟩) ?rest4_17
  case hy4_17 => (go_simp; try with_reducible rfl)
  try simp only [Act.put, List.setIfInBounds_toArray, List.set_cons_zero, List.set_cons_succ]
  refine Left.pure (i := 18) (v := ?v4_18) rfl (by kernel_rfl) (fun _ _ _ h => h) (Or.inr hS) (Or.inl ⟨by rfl, fun w _ => ?hy4_18⟩) ?rest4_18
  case hy4_18 => (go_simp; try with_reducible rfl)
  try simp only [Act.put, List.setIfInBounds_toArray, List.set_cons_zero, List.set_cons_succ]
  refine Left.take (i := 19) (v := ?v4_19) rfl (by kernel_rfl) (fun _ _ _ h => h) hS (Or.inl ⟨by rfl, fun w hSw => ?hy4_19⟩) ?rest4_19
  case hy4_19 => ((try dsimp only at hSw); go_simp; try with_reducible rfl)
  try simp only [Act.put, List.setIfInBounds_toArray, List.set_cons_zero, List.set_cons_succ]
  refine Left.run (i := 20) rfl (by kernel_rfl) (fun K hK => ?_)
  have H5 := H3.drew.alloc (.cells #[.int .u64 s.out] 26)
  go_simp
  replace hS : (fun w' : World => w'.cell? ⟨p, 3, none⟩ = some (.slice A3 s.mov.length k3) ∧ w'.cell? ⟨p, 4, none⟩ = some (.int .u64 s.out) ∧ p < w'.heap.size) (w4.drew.alloc (.cells #[.int .u64 s.out] 26)) := by exact ⟨H5.at1.cellOf 3 rfl, H5.at1.cellOf 4 rfl, H5.at1.lt⟩
  refine hK.out _ _ (Or.inr hS) ?_
  clear hK K
  try simp only [Act.put, List.setIfInBounds_toArray, List.set_cons_zero, List.set_cons_succ]
  refine Left.run (i := 21) rfl (by kernel_rfl) (fun K hK => ?_)
  refine step_append_box (E := Enc.num .u64) (v := .slice A3 s.mov.length s.mov.length) (by rfl) (.tmp 51) (.tmp 56) 56 (by rfl) 26 _ 1 8 Try.underlying56 info26 rfl (by decide) (by decide) rfl (by rfl) (by rfl) ((H3.drew.alloc_ _).at4.ls_cap s.mov.length (Nat.le_refl _) hk3) s.out (by exact RdL.boxAt _ (by simp)) (by rw [hl2.out]; omega) ?_
  intro A5 k5 w5 H6
  rw [hl2.out] at H6
  rw [hl2.out]
  replace hS : (fun w' : World => w'.cell? ⟨p, 3, none⟩ = some (.slice A3 s.mov.length k3) ∧ w'.cell? ⟨p, 4, none⟩ = some (.int .u64 s.out) ∧ p < w'.heap.size) w5 := by exact ⟨H6.at1.cellOf 3 rfl, H6.at1.cellOf 4 rfl, H6.at1.lt⟩
  refine hK.out _ _ (Or.inr hS) ?_
  clear hK K
  try simp only [Act.put, List.setIfInBounds_toArray, List.set_cons_zero, List.set_cons_succ]
  refine Left.pure (i := 22) (v := ?v4_22) rfl (by kernel_rfl) (fun _ _ _ h => h) (Or.inr hS) (Or.inl ⟨by rfl, fun w _ => ?hy4_22⟩) ?rest4_22
  case hy4_22 => (go_simp; try with_reducible rfl)
  try simp only [Act.put, List.setIfInBounds_toArray, List.set_cons_zero, List.set_cons_succ]
  refine Left.pure (i := 23) (v := ?v4_23) rfl (by kernel_rfl) (fun _ _ _ h => h) (Or.inr hS) (Or.inl ⟨by rfl, fun w _ => ?hy4_23⟩) ?rest4_23
  case hy4_23 => (go_simp; try with_reducible rfl)
  try simp only [Act.put, List.setIfInBounds_toArray, List.set_cons_zero, List.set_cons_succ]
  refine Left.run (i := 24) rfl (by kernel_rfl) (fun K hK => ?_)
  have f3 := H6.at1.frozenOf 3
  have d3 := H6.at1.cellOf 3 rfl
  go_simp
  refine hK.out _ _ (Or.inl (by kernel_rfl)) ?_
  clear hK K
  try simp only [Act.put, List.setIfInBounds_toArray, List.set_cons_zero, List.set_cons_succ]
  refine Left.done (by kernel_rfl) ?_ _

  have H7 := (H6.ls_eq (ys := (s.mov ++ [(s.ep, s.out, b0)]).map (·.2.1)) (by simp)).at1.setCellTo 3 (.slice A5 (s.mov.length + 1) k5) #[.slice B bs.length (k0 - 1), .slice A4 (s.mov.length + 1) k4, .slice A2 s.wait.length k2, .slice A5 (s.mov.length + 1) k5, .int .u64 s.out, .int .u64 s.ep, .int .i64 s.cr, .int .u64 s.inn, .int .i64 s.gr] rfl
  have e4 : w5.cell? ⟨p, 4, none⟩ = some (.int .u64 s.out) := H6.at1.cellOf 4 rfl
  have g4 := H6.at1.frozenOf 4
  clear H6 H5 H3 f3 d3 hcut hS
  have H8 := H7.setCellTo 4 (.int .u64 (IntKind.u64.wrap (s.out + 1))) #[.slice B bs.length (k0 - 1), .slice A4 (s.mov.length + 1) k4, .slice A2 s.wait.length k2, .slice A5 (s.mov.length + 1) k5, .int .u64 (IntKind.u64.wrap (s.out + 1)), .int .u64 s.ep, .int .i64 s.cr, .int .u64 s.inn, .int .i64 s.gr] rfl
  replace H8 := Lib.hid H8
  clear H7
  go_wp2_with fail
  go_ret
  exact ⟨rfl, RefC.mk_ (s := { s with back := bs, mov := s.mov ++ [(s.ep, s.out, b0)], out := IntKind.u64.wrap (s.out + 1) }) (H8.out.at4.at4.ls_eq (ys := (s.mov ++ [(s.ep, s.out, b0)]).map (·.2.2)) (by simp)).at4.at3⟩
theorem ref_send_no32 (p : Nat) (s : Ch Int) (w w0 : World) (R : List HP) (H : Hs w0 w (RefC p s :: R)) (hs : s.Ok) (hn : s.back = [] ∨ s.cred ≤ 0) :
    Calls Try.prog 32 #[.pointer (some ⟨p, 0, none⟩)] w fun e w' => e = .returned (.bool false) ∧ Hs w0 w' (RefC p s :: R) := by
  have HC := Lib.hid H
  obtain ⟨A0, k0, A1, k1, A2, k2, A3, k3, H⟩ := RefC.open_ H
  have c1 : w.cell? ⟨p, 0, none⟩ = some (.slice A0 s.back.length k0) := H.cellOf 0 rfl
  cases hl : s.back with
  | nil =>
    rw [hl] at c1
    simp only [List.length_nil] at c1
    clear hl H hn
    go_enter Try.func32, Try.ntmps32
    go_wp2_with fail
    go_ret
    exact ⟨rfl, HC.out⟩
  | cons b0 bs =>
    rw [hl] at c1
    simp only [List.length_cons] at c1
    have hc : s.cred ≤ 0 := by rcases hn with h | h; (· rw [hl] at h; cases h); exact h
    have hnz : ((bs.length : Int) + 1 == 0) = false := by rw [beq_eq_false_iff_ne]; omega
    clear hl H hn
    go_enter Try.func32, Try.ntmps32
    go_wp2_with fail
    refine (ref_credits39 p s _ _ _ HC.out hs).mono ?_
    rintro e w1 ⟨rfl, m, rfl⟩
    go_wp2_with fail
    go_ret
    exact ⟨rfl, HC.out.drewN m⟩
theorem ref_sends32 (p : Nat) (s : Ch Int) (w w0 : World) (R : List HP) (H : Hs w0 w (RefC p s :: R)) (hs : s.Ok) :
    Calls Try.prog 32 #[.pointer (some ⟨p, 0, none⟩)] w fun e w' => e = .returned (.bool s.sends) ∧ Hs w0 w' (RefC p s.send :: R) := by
  unfold Ch.sends Ch.send
  cases hl : s.back with
  | nil => exact ref_send_no32 p s w w0 R H hs (.inl hl)
  | cons x r =>
    by_cases hc : 0 < s.cred
    · simp only [if_pos hc]
      refine (ref_send32 p s x r w w0 R H hs hl hc).mono ?_
      rintro e w' ⟨rfl, h⟩
      exact ⟨by simp [hc], h⟩
    · simp only [if_neg hc]
      refine (ref_send_no32 p s w w0 R H hs (.inr (by omega))).mono ?_
      rintro e w' ⟨rfl, h⟩
      exact ⟨by simp [hc], h⟩
end Go.Proofs.Ytoiokmfdmpifiaa

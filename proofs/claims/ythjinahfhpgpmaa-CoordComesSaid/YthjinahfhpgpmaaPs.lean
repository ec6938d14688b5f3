import Derived.Test.YthjinahfhpgpmaaPd
import Derived.Test.YthjinahfhpgpmaaPn
import Derived.IntWalk
import Derived.Test.YthjinahfhpgpmaaProg
import Derived.Test.YthjinahfhpgpmaaLs
import Derived.Outline
import Derived.StillTailTactics
import Derived.Deep.DeepCutAuto
import Derived.Deep.CutBlock
import Derived.Deep.LoopGhost
import Derived.Deep.QuietTactic
import Derived.BigQuiet
import Derived.Deep.RegionHeld3
import Derived.Deep.RegionLaw
set_option linter.unusedVariables false
set_option linter.unusedSimpArgs false
namespace Go.Proofs.Ythjinahfhpgpmaa
open Go.RowKit
set_option maxRecDepth 100000 in
set_option maxHeartbeats 600000 in
theorem settled_A (p bt : Nat) (v : Vs) (s : Co) (w w1 w0 : World) (R : List HP) (he : (s.epoch != 0) = false) (hw1 : w.alloc (.cells #[.pointer (some ⟨p, 0, none⟩)] 25) = w1) (hbt : w.heap.size = bt)
    (H1 : Hid (Hs w0 w1 (CoV p v s :: Blk bt (.cells #[.pointer (some ⟨p, 0, none⟩)] 25 (0, 0)) :: R))) : Calls Try.prog 19 #[.pointer (some ⟨p, 0, none⟩)] w fun e w' => e = .returned (.bool false) ∧ Hs w0 w' (CoV p v s :: R) := by
  replace hw1 := Lib.hid hw1
  replace hbt := Lib.hid hbt
  go_enter Try.func19, Try.ntmps19
  go_upto_region 1 with (fail)
  rw [hw1.out, hbt.out]
  refine wp_region_left (S := fun w' : World => w'.cell? ⟨bt, 0, none⟩ = some (.pointer (some ⟨p, 0, none⟩)) ∧ w'.cell? ⟨p, 4, none⟩ = some (.int .u64 s.epoch) ∧ w'.cell? ⟨p, 7, none⟩ = some (.map (some v.m1)) ∧ w'.cell? ⟨p, 10, none⟩ = some (.int .u64 s.under) ∧ w'.cell? ⟨p, 11, none⟩ = some (.int .u64 s.durable) ∧ w'.cell? ⟨p, 1, none⟩ = some v.vs) 36 mixed ?_
  have hS : (fun w' : World => w'.cell? ⟨bt, 0, none⟩ = some (.pointer (some ⟨p, 0, none⟩)) ∧ w'.cell? ⟨p, 4, none⟩ = some (.int .u64 s.epoch) ∧ w'.cell? ⟨p, 7, none⟩ = some (.map (some v.m1)) ∧ w'.cell? ⟨p, 10, none⟩ = some (.int .u64 s.under) ∧ w'.cell? ⟨p, 11, none⟩ = some (.int .u64 s.durable) ∧ w'.cell? ⟨p, 1, none⟩ = some v.vs) w1.drew := by exact ⟨(H1.out.drew).at1.cellOf 0 rfl, CoV.cell (H1.out.drew) 4 rfl, CoV.cell (H1.out.drew) 7 rfl, CoV.cell (H1.out.drew) 10 rfl, CoV.cell (H1.out.drew) 11 rfl, CoV.cell (H1.out.drew) 1 rfl⟩
  refine Left.take (i := 0) (v := ?vA1_0) rfl (by kernel_rfl) (fun _ _ _ h => h) hS (Or.inl ⟨by kernel_rfl, fun w hSw => ?hyA1_0⟩) ?restA1_0
  case hyA1_0 => ((try dsimp only at hSw); go_simp; try with_reducible rfl)
  try simp only [Act.put, List.setIfInBounds_toArray, List.set_cons_zero, List.set_cons_succ]
  refine Left.pure (i := 1) (v := ?vA1_1) rfl (by kernel_rfl) (fun _ _ _ h => h) (Or.inr hS) (Or.inl ⟨by kernel_rfl, fun w _ => ?hyA1_1⟩) ?restA1_1
  case hyA1_1 => (go_simp; try with_reducible rfl)
  try simp only [Act.put, List.setIfInBounds_toArray, List.set_cons_zero, List.set_cons_succ]
  refine Left.pure (i := 2) (v := ?vA1_2) rfl (by kernel_rfl) (fun _ _ _ h => h) (Or.inr hS) (Or.inl ⟨by kernel_rfl, fun w _ => ?hyA1_2⟩) ?restA1_2
  case hyA1_2 => (go_simp; try with_reducible rfl)
  try simp only [Act.put, List.setIfInBounds_toArray, List.set_cons_zero, List.set_cons_succ]
  refine Left.take (i := 3) (v := ?vA1_3) rfl (by kernel_rfl) (fun _ _ _ h => h) hS (Or.inl ⟨by kernel_rfl, fun w hSw => ?hyA1_3⟩) ?restA1_3
  case hyA1_3 => ((try dsimp only at hSw); go_simp; try with_reducible rfl)
  try simp only [Act.put, List.setIfInBounds_toArray, List.set_cons_zero, List.set_cons_succ]
  refine Left.pure (i := 4) (v := ?vA1_4) rfl (by kernel_rfl) (fun _ _ _ h => h) (Or.inr hS) (Or.inl ⟨by kernel_rfl, fun w _ => ?hyA1_4⟩) ?restA1_4
  case hyA1_4 => (go_simp; try with_reducible rfl)
  try simp only [Act.put, List.setIfInBounds_toArray, List.set_cons_zero, List.set_cons_succ]
  refine Left.pure (i := 5) (v := ?vA1_5) rfl (by kernel_rfl) (fun _ _ _ h => h) (Or.inr hS) (Or.inl ⟨by kernel_rfl, fun w _ => ?hyA1_5⟩) ?restA1_5
  case hyA1_5 => (go_simp; try with_reducible rfl)
  try simp only [Act.put, List.setIfInBounds_toArray, List.set_cons_zero, List.set_cons_succ]
  refine Left.pure (i := 6) (v := undef) rfl (by kernel_rfl) (fun _ _ _ h => h) (Or.inr hS) (Or.inr ⟨by kernel_rfl, rfl⟩) ?restA1_6
  try simp only [Act.put, List.setIfInBounds_toArray, List.set_cons_zero, List.set_cons_succ]
  refine Left.pure (i := 7) (v := undef) rfl (by kernel_rfl) (fun _ _ _ h => h) (Or.inr hS) (Or.inr ⟨by kernel_rfl, rfl⟩) ?restA1_7
  try simp only [Act.put, List.setIfInBounds_toArray, List.set_cons_zero, List.set_cons_succ]
  refine Left.pure (i := 8) (v := undef) rfl (by kernel_rfl) (fun _ _ _ h => h) (Or.inr hS) (Or.inr ⟨by kernel_rfl, rfl⟩) ?restA1_8
  try simp only [Act.put, List.setIfInBounds_toArray, List.set_cons_zero, List.set_cons_succ]
  refine Left.pure (i := 9) (v := undef) rfl (by kernel_rfl) (fun _ _ _ h => h) (Or.inr hS) (Or.inr ⟨by kernel_rfl, rfl⟩) ?restA1_9
  try simp only [Act.put, List.setIfInBounds_toArray, List.set_cons_zero, List.set_cons_succ]
  refine Left.pure (i := 10) (v := undef) rfl (by kernel_rfl) (fun _ _ _ h => h) (Or.inr hS) (Or.inr ⟨by kernel_rfl, rfl⟩) ?restA1_10
  try simp only [Act.put, List.setIfInBounds_toArray, List.set_cons_zero, List.set_cons_succ]
  refine Left.run (i := 11) rfl (by kernel_rfl) (fun K hK => ?_)
  go_simp
  replace hS : (fun w' : World => w'.cell? ⟨bt, 0, none⟩ = some (.pointer (some ⟨p, 0, none⟩)) ∧ w'.cell? ⟨p, 4, none⟩ = some (.int .u64 s.epoch) ∧ w'.cell? ⟨p, 7, none⟩ = some (.map (some v.m1)) ∧ w'.cell? ⟨p, 10, none⟩ = some (.int .u64 s.under) ∧ w'.cell? ⟨p, 11, none⟩ = some (.int .u64 s.durable) ∧ w'.cell? ⟨p, 1, none⟩ = some v.vs) w1.drew := by exact hS
  refine hK.out _ _ (Or.inr hS) ?_
  clear hK K
  try simp only [Act.put, List.setIfInBounds_toArray, List.set_cons_zero, List.set_cons_succ]
  refine Left.pure (i := 12) (v := ?vA1_12) rfl (by kernel_rfl) (fun _ _ _ h => h) (Or.inr hS) (Or.inl ⟨by kernel_rfl, fun w _ => ?hyA1_12⟩) ?restA1_12
  case hyA1_12 => (go_simp; try with_reducible rfl)
  try simp only [Act.put, List.setIfInBounds_toArray, List.set_cons_zero, List.set_cons_succ]
  refine Left.pure (i := 13) (v := ?vA1_13) rfl (by kernel_rfl) (fun _ _ _ h => h) (Or.inr hS) (Or.inl ⟨by kernel_rfl, fun w _ => ?hyA1_13⟩) ?restA1_13
  case hyA1_13 => (go_simp; try with_reducible rfl)
  try simp only [Act.put, List.setIfInBounds_toArray, List.set_cons_zero, List.set_cons_succ]
  refine Left.pure (i := 14) (v := undef) rfl (by kernel_rfl) (fun _ _ _ h => h) (Or.inr hS) (Or.inr ⟨by kernel_rfl, rfl⟩) ?restA1_14
  try simp only [Act.put, List.setIfInBounds_toArray, List.set_cons_zero, List.set_cons_succ]
  refine Left.pure (i := 15) (v := undef) rfl (by kernel_rfl) (fun _ _ _ h => h) (Or.inr hS) (Or.inr ⟨by kernel_rfl, rfl⟩) ?restA1_15
  try simp only [Act.put, List.setIfInBounds_toArray, List.set_cons_zero, List.set_cons_succ]
  refine Left.pure (i := 16) (v := undef) rfl (by kernel_rfl) (fun _ _ _ h => h) (Or.inr hS) (Or.inr ⟨by kernel_rfl, rfl⟩) ?restA1_16
  try simp only [Act.put, List.setIfInBounds_toArray, List.set_cons_zero, List.set_cons_succ]
  refine Left.pure (i := 17) (v := undef) rfl (by kernel_rfl) (fun _ _ _ h => h) (Or.inr hS) (Or.inr ⟨by kernel_rfl, rfl⟩) ?restA1_17
  try simp only [Act.put, List.setIfInBounds_toArray, List.set_cons_zero, List.set_cons_succ]
  refine Left.pure (i := 18) (v := undef) rfl (by kernel_rfl) (fun _ _ _ h => h) (Or.inr hS) (Or.inr ⟨by kernel_rfl, rfl⟩) ?restA1_18
  try simp only [Act.put, List.setIfInBounds_toArray, List.set_cons_zero, List.set_cons_succ]
  refine Left.pure (i := 19) (v := ?vA1_19) rfl (by kernel_rfl) (fun _ _ _ h => h) (Or.inr hS) (Or.inl ⟨by kernel_rfl, fun w _ => ?hyA1_19⟩) ?restA1_19
  case hyA1_19 => (go_simp; try with_reducible rfl)
  try simp only [Act.put, List.setIfInBounds_toArray, List.set_cons_zero, List.set_cons_succ]
  refine Left.pure (i := 20) (v := ?vA1_20) rfl (by kernel_rfl) (fun _ _ _ h => h) (Or.inr hS) (Or.inl ⟨by kernel_rfl, fun w _ => ?hyA1_20⟩) ?restA1_20
  case hyA1_20 => (go_simp; try with_reducible rfl)
  try simp only [Act.put, List.setIfInBounds_toArray, List.set_cons_zero, List.set_cons_succ]
  refine Left.pure (i := 21) (v := undef) rfl (by kernel_rfl) (fun _ _ _ h => h) (Or.inr hS) (Or.inr ⟨by kernel_rfl, rfl⟩) ?restA1_21
  try simp only [Act.put, List.setIfInBounds_toArray, List.set_cons_zero, List.set_cons_succ]
  refine Left.pure (i := 22) (v := undef) rfl (by kernel_rfl) (fun _ _ _ h => h) (Or.inr hS) (Or.inr ⟨by kernel_rfl, rfl⟩) ?restA1_22
  try simp only [Act.put, List.setIfInBounds_toArray, List.set_cons_zero, List.set_cons_succ]
  refine Left.pure (i := 23) (v := undef) rfl (by kernel_rfl) (fun _ _ _ h => h) (Or.inr hS) (Or.inr ⟨by kernel_rfl, rfl⟩) ?restA1_23
  try simp only [Act.put, List.setIfInBounds_toArray, List.set_cons_zero, List.set_cons_succ]
  refine Left.pure (i := 24) (v := undef) rfl (by kernel_rfl) (fun _ _ _ h => h) (Or.inr hS) (Or.inr ⟨by kernel_rfl, rfl⟩) ?restA1_24
  try simp only [Act.put, List.setIfInBounds_toArray, List.set_cons_zero, List.set_cons_succ]
  refine Left.pure (i := 25) (v := undef) rfl (by kernel_rfl) (fun _ _ _ h => h) (Or.inr hS) (Or.inr ⟨by kernel_rfl, rfl⟩) ?restA1_25
  try simp only [Act.put, List.setIfInBounds_toArray, List.set_cons_zero, List.set_cons_succ]
  refine Left.pure (i := 26) (v := undef) rfl (by kernel_rfl) (fun _ _ _ h => h) (Or.inr hS) (Or.inr ⟨by kernel_rfl, rfl⟩) ?restA1_26
  try simp only [Act.put, List.setIfInBounds_toArray, List.set_cons_zero, List.set_cons_succ]
  refine Left.pure (i := 27) (v := undef) rfl (by kernel_rfl) (fun _ _ _ h => h) (Or.inr hS) (Or.inr ⟨by kernel_rfl, rfl⟩) ?restA1_27
  try simp only [Act.put, List.setIfInBounds_toArray, List.set_cons_zero, List.set_cons_succ]
  refine Left.pure (i := 28) (v := undef) rfl (by kernel_rfl) (fun _ _ _ h => h) (Or.inr hS) (Or.inr ⟨by kernel_rfl, rfl⟩) ?restA1_28
  try simp only [Act.put, List.setIfInBounds_toArray, List.set_cons_zero, List.set_cons_succ]
  refine Left.pure (i := 29) (v := undef) rfl (by kernel_rfl) (fun _ _ _ h => h) (Or.inr hS) (Or.inr ⟨by kernel_rfl, rfl⟩) ?restA1_29
  try simp only [Act.put, List.setIfInBounds_toArray, List.set_cons_zero, List.set_cons_succ]
  refine Left.pure (i := 30) (v := undef) rfl (by kernel_rfl) (fun _ _ _ h => h) (Or.inr hS) (Or.inr ⟨by kernel_rfl, rfl⟩) ?restA1_30
  try simp only [Act.put, List.setIfInBounds_toArray, List.set_cons_zero, List.set_cons_succ]
  refine Left.pure (i := 31) (v := undef) rfl (by kernel_rfl) (fun _ _ _ h => h) (Or.inr hS) (Or.inr ⟨by kernel_rfl, rfl⟩) ?restA1_31
  try simp only [Act.put, List.setIfInBounds_toArray, List.set_cons_zero, List.set_cons_succ]
  refine Left.run (i := 32) rfl (by kernel_rfl) (fun K hK => ?_)
  go_simp
  replace hS : (fun w' : World => w'.cell? ⟨bt, 0, none⟩ = some (.pointer (some ⟨p, 0, none⟩)) ∧ w'.cell? ⟨p, 4, none⟩ = some (.int .u64 s.epoch) ∧ w'.cell? ⟨p, 7, none⟩ = some (.map (some v.m1)) ∧ w'.cell? ⟨p, 10, none⟩ = some (.int .u64 s.under) ∧ w'.cell? ⟨p, 11, none⟩ = some (.int .u64 s.durable) ∧ w'.cell? ⟨p, 1, none⟩ = some v.vs) w1.drew := by exact hS
  refine hK.out _ _ (Or.inr hS) ?_
  clear hK K
  try simp only [Act.put, List.setIfInBounds_toArray, List.set_cons_zero, List.set_cons_succ]
  refine Left.pure (i := 33) (v := undef) rfl (by kernel_rfl) (fun _ _ _ h => h) (Or.inr hS) (Or.inr ⟨by kernel_rfl, rfl⟩) ?restA1_33
  try simp only [Act.put, List.setIfInBounds_toArray, List.set_cons_zero, List.set_cons_succ]
  refine Left.pure (i := 34) (v := undef) rfl (by kernel_rfl) (fun _ _ _ h => h) (Or.inr hS) (Or.inr ⟨by kernel_rfl, rfl⟩) ?restA1_34
  try simp only [Act.put, List.setIfInBounds_toArray, List.set_cons_zero, List.set_cons_succ]
  refine Left.pure (i := 35) (v := ?vA1_35) rfl (by kernel_rfl) (fun _ _ _ h => h) (Or.inr hS) (Or.inl ⟨by kernel_rfl, fun w _ => ?hyA1_35⟩) ?restA1_35
  case hyA1_35 => (go_simp; try with_reducible rfl)
  try simp only [Act.put, List.setIfInBounds_toArray, List.set_cons_zero, List.set_cons_succ]
  refine Left.run (i := 36) rfl (by kernel_rfl) (fun K hK => ?_)
  go_simp
  refine hK.out _ _ (Or.inl (by kernel_rfl)) ?_
  clear hK K
  try simp only [Act.put, List.setIfInBounds_toArray, List.set_cons_zero, List.set_cons_succ]
  refine Left.done (by kernel_rfl) ?_ _

  go_wp2_with fail
  go_ret
  exact ⟨rfl, H1.out.drew.at1.tail⟩
set_option maxRecDepth 100000 in
set_option maxHeartbeats 600000 in
theorem settled_B (p bt : Nat) (v : Vs) (s : Co) (w w1 w0 : World) (R : List HP) (he : (s.epoch != 0) = true) (hw1 : w.alloc (.cells #[.pointer (some ⟨p, 0, none⟩)] 25) = w1) (hbt : w.heap.size = bt)
    (H1 : Hid (Hs w0 w1 (CoV p v s :: Blk bt (.cells #[.pointer (some ⟨p, 0, none⟩)] 25 (0, 0)) :: R))) (ha : Hid (∀ w', Hs w0 w' (CoV p v s :: Blk bt (.cells #[.pointer (some ⟨p, 0, none⟩)] 25 (0, 0)) :: R) → Calls Try.prog 26 #[.pointer (some ⟨p, 0, none⟩), .map (some v.m1)] w' fun e w'' => e = .returned (.bool false) ∧ Hs w0 w'' (CoV p v s :: Blk bt (.cells #[.pointer (some ⟨p, 0, none⟩)] 25 (0, 0)) :: R))) : Calls Try.prog 19 #[.pointer (some ⟨p, 0, none⟩)] w fun e w' => e = .returned (.bool false) ∧ Hs w0 w' (CoV p v s :: R) := by
  replace hw1 := Lib.hid hw1
  replace hbt := Lib.hid hbt
  go_enter Try.func19, Try.ntmps19
  go_upto_region 1 with (fail)
  rw [hw1.out, hbt.out]
  refine wp_region_left (S := fun w' : World => w'.cell? ⟨bt, 0, none⟩ = some (.pointer (some ⟨p, 0, none⟩)) ∧ w'.cell? ⟨p, 4, none⟩ = some (.int .u64 s.epoch) ∧ w'.cell? ⟨p, 7, none⟩ = some (.map (some v.m1)) ∧ w'.cell? ⟨p, 10, none⟩ = some (.int .u64 s.under) ∧ w'.cell? ⟨p, 11, none⟩ = some (.int .u64 s.durable) ∧ w'.cell? ⟨p, 1, none⟩ = some v.vs) 36 mixed ?_
  have hS : (fun w' : World => w'.cell? ⟨bt, 0, none⟩ = some (.pointer (some ⟨p, 0, none⟩)) ∧ w'.cell? ⟨p, 4, none⟩ = some (.int .u64 s.epoch) ∧ w'.cell? ⟨p, 7, none⟩ = some (.map (some v.m1)) ∧ w'.cell? ⟨p, 10, none⟩ = some (.int .u64 s.under) ∧ w'.cell? ⟨p, 11, none⟩ = some (.int .u64 s.durable) ∧ w'.cell? ⟨p, 1, none⟩ = some v.vs) w1.drew := by exact ⟨(H1.out.drew).at1.cellOf 0 rfl, CoV.cell (H1.out.drew) 4 rfl, CoV.cell (H1.out.drew) 7 rfl, CoV.cell (H1.out.drew) 10 rfl, CoV.cell (H1.out.drew) 11 rfl, CoV.cell (H1.out.drew) 1 rfl⟩
  refine Left.take (i := 0) (v := ?vB1_0) rfl (by kernel_rfl) (fun _ _ _ h => h) hS (Or.inl ⟨by kernel_rfl, fun w hSw => ?hyB1_0⟩) ?restB1_0
  case hyB1_0 => ((try dsimp only at hSw); go_simp; try with_reducible rfl)
  try simp only [Act.put, List.setIfInBounds_toArray, List.set_cons_zero, List.set_cons_succ]
  refine Left.pure (i := 1) (v := ?vB1_1) rfl (by kernel_rfl) (fun _ _ _ h => h) (Or.inr hS) (Or.inl ⟨by kernel_rfl, fun w _ => ?hyB1_1⟩) ?restB1_1
  case hyB1_1 => (go_simp; try with_reducible rfl)
  try simp only [Act.put, List.setIfInBounds_toArray, List.set_cons_zero, List.set_cons_succ]
  refine Left.pure (i := 2) (v := ?vB1_2) rfl (by kernel_rfl) (fun _ _ _ h => h) (Or.inr hS) (Or.inl ⟨by kernel_rfl, fun w _ => ?hyB1_2⟩) ?restB1_2
  case hyB1_2 => (go_simp; try with_reducible rfl)
  try simp only [Act.put, List.setIfInBounds_toArray, List.set_cons_zero, List.set_cons_succ]
  refine Left.take (i := 3) (v := ?vB1_3) rfl (by kernel_rfl) (fun _ _ _ h => h) hS (Or.inl ⟨by kernel_rfl, fun w hSw => ?hyB1_3⟩) ?restB1_3
  case hyB1_3 => ((try dsimp only at hSw); go_simp; try with_reducible rfl)
  try simp only [Act.put, List.setIfInBounds_toArray, List.set_cons_zero, List.set_cons_succ]
  refine Left.pure (i := 4) (v := ?vB1_4) rfl (by kernel_rfl) (fun _ _ _ h => h) (Or.inr hS) (Or.inl ⟨by kernel_rfl, fun w _ => ?hyB1_4⟩) ?restB1_4
  case hyB1_4 => (go_simp; try with_reducible rfl)
  try simp only [Act.put, List.setIfInBounds_toArray, List.set_cons_zero, List.set_cons_succ]
  refine Left.pure (i := 5) (v := ?vB1_5) rfl (by kernel_rfl) (fun _ _ _ h => h) (Or.inr hS) (Or.inl ⟨by kernel_rfl, fun w _ => ?hyB1_5⟩) ?restB1_5
  case hyB1_5 => (go_simp; try with_reducible rfl)
  try simp only [Act.put, List.setIfInBounds_toArray, List.set_cons_zero, List.set_cons_succ]
  refine Left.take (i := 6) (v := ?vB1_6) rfl (by kernel_rfl) (fun _ _ _ h => h) hS (Or.inl ⟨by kernel_rfl, fun w hSw => ?hyB1_6⟩) ?restB1_6
  case hyB1_6 => ((try dsimp only at hSw); go_simp; try with_reducible rfl)
  try simp only [Act.put, List.setIfInBounds_toArray, List.set_cons_zero, List.set_cons_succ]
  refine Left.take (i := 7) (v := ?vB1_7) rfl (by kernel_rfl) (fun _ _ _ h => h) hS (Or.inl ⟨by kernel_rfl, fun w hSw => ?hyB1_7⟩) ?restB1_7
  case hyB1_7 => ((try dsimp only at hSw); go_simp; try with_reducible rfl)
  try simp only [Act.put, List.setIfInBounds_toArray, List.set_cons_zero, List.set_cons_succ]
  refine Left.pure (i := 8) (v := ?vB1_8) rfl (by kernel_rfl) (fun _ _ _ h => h) (Or.inr hS) (Or.inl ⟨by kernel_rfl, fun w _ => ?hyB1_8⟩) ?restB1_8
  case hyB1_8 => (go_simp; try with_reducible rfl)
  try simp only [Act.put, List.setIfInBounds_toArray, List.set_cons_zero, List.set_cons_succ]
  refine Left.pure (i := 9) (v := ?vB1_9) rfl (by kernel_rfl) (fun _ _ _ h => h) (Or.inr hS) (Or.inl ⟨by kernel_rfl, fun w _ => ?hyB1_9⟩) ?restB1_9
  case hyB1_9 => (go_simp; try with_reducible rfl)
  try simp only [Act.put, List.setIfInBounds_toArray, List.set_cons_zero, List.set_cons_succ]
  refine Left.take (i := 10) (v := ?vB1_10) rfl (by kernel_rfl) (fun _ _ _ h => h) hS (Or.inl ⟨by kernel_rfl, fun w hSw => ?hyB1_10⟩) ?restB1_10
  case hyB1_10 => ((try dsimp only at hSw); go_simp; try with_reducible rfl)
  try simp only [Act.put, List.setIfInBounds_toArray, List.set_cons_zero, List.set_cons_succ]
  refine Left.run (i := 11) rfl (by kernel_rfl) (fun K hK => ?_)
  go_simp
  go_at_call 26
  refine (ha.out _ H1.out.drew).mono ?_
  rintro e w2 ⟨rfl, H2⟩
  replace H2 := Lib.hid H2
  go_simp
  replace hS : (fun w' : World => w'.cell? ⟨bt, 0, none⟩ = some (.pointer (some ⟨p, 0, none⟩)) ∧ w'.cell? ⟨p, 4, none⟩ = some (.int .u64 s.epoch) ∧ w'.cell? ⟨p, 7, none⟩ = some (.map (some v.m1)) ∧ w'.cell? ⟨p, 10, none⟩ = some (.int .u64 s.under) ∧ w'.cell? ⟨p, 11, none⟩ = some (.int .u64 s.durable) ∧ w'.cell? ⟨p, 1, none⟩ = some v.vs) w2 := by exact ⟨(H2.out).at1.cellOf 0 rfl, CoV.cell (H2.out) 4 rfl, CoV.cell (H2.out) 7 rfl, CoV.cell (H2.out) 10 rfl, CoV.cell (H2.out) 11 rfl, CoV.cell (H2.out) 1 rfl⟩
  refine hK.out _ _ (Or.inr hS) ?_
  clear hK K
  try simp only [Act.put, List.setIfInBounds_toArray, List.set_cons_zero, List.set_cons_succ]
  refine Left.pure (i := 12) (v := ?vB1_12) rfl (by kernel_rfl) (fun _ _ _ h => h) (Or.inr hS) (Or.inl ⟨by kernel_rfl, fun w _ => ?hyB1_12⟩) ?restB1_12
  case hyB1_12 => (go_simp; try with_reducible rfl)
  try simp only [Act.put, List.setIfInBounds_toArray, List.set_cons_zero, List.set_cons_succ]
  refine Left.pure (i := 13) (v := ?vB1_13) rfl (by kernel_rfl) (fun _ _ _ h => h) (Or.inr hS) (Or.inl ⟨by kernel_rfl, fun w _ => ?hyB1_13⟩) ?restB1_13
  case hyB1_13 => (go_simp; try with_reducible rfl)
  try simp only [Act.put, List.setIfInBounds_toArray, List.set_cons_zero, List.set_cons_succ]
  refine Left.pure (i := 14) (v := undef) rfl (by kernel_rfl) (fun _ _ _ h => h) (Or.inr hS) (Or.inr ⟨by kernel_rfl, rfl⟩) ?restB1_14
  try simp only [Act.put, List.setIfInBounds_toArray, List.set_cons_zero, List.set_cons_succ]
  refine Left.pure (i := 15) (v := undef) rfl (by kernel_rfl) (fun _ _ _ h => h) (Or.inr hS) (Or.inr ⟨by kernel_rfl, rfl⟩) ?restB1_15
  try simp only [Act.put, List.setIfInBounds_toArray, List.set_cons_zero, List.set_cons_succ]
  refine Left.pure (i := 16) (v := undef) rfl (by kernel_rfl) (fun _ _ _ h => h) (Or.inr hS) (Or.inr ⟨by kernel_rfl, rfl⟩) ?restB1_16
  try simp only [Act.put, List.setIfInBounds_toArray, List.set_cons_zero, List.set_cons_succ]
  refine Left.pure (i := 17) (v := undef) rfl (by kernel_rfl) (fun _ _ _ h => h) (Or.inr hS) (Or.inr ⟨by kernel_rfl, rfl⟩) ?restB1_17
  try simp only [Act.put, List.setIfInBounds_toArray, List.set_cons_zero, List.set_cons_succ]
  refine Left.pure (i := 18) (v := undef) rfl (by kernel_rfl) (fun _ _ _ h => h) (Or.inr hS) (Or.inr ⟨by kernel_rfl, rfl⟩) ?restB1_18
  try simp only [Act.put, List.setIfInBounds_toArray, List.set_cons_zero, List.set_cons_succ]
  refine Left.pure (i := 19) (v := ?vB1_19) rfl (by kernel_rfl) (fun _ _ _ h => h) (Or.inr hS) (Or.inl ⟨by kernel_rfl, fun w _ => ?hyB1_19⟩) ?restB1_19
  case hyB1_19 => (go_simp; try with_reducible rfl)
  try simp only [Act.put, List.setIfInBounds_toArray, List.set_cons_zero, List.set_cons_succ]
  refine Left.pure (i := 20) (v := ?vB1_20) rfl (by kernel_rfl) (fun _ _ _ h => h) (Or.inr hS) (Or.inl ⟨by kernel_rfl, fun w _ => ?hyB1_20⟩) ?restB1_20
  case hyB1_20 => (go_simp; try with_reducible rfl)
  try simp only [Act.put, List.setIfInBounds_toArray, List.set_cons_zero, List.set_cons_succ]
  refine Left.pure (i := 21) (v := undef) rfl (by kernel_rfl) (fun _ _ _ h => h) (Or.inr hS) (Or.inr ⟨by kernel_rfl, rfl⟩) ?restB1_21
  try simp only [Act.put, List.setIfInBounds_toArray, List.set_cons_zero, List.set_cons_succ]
  refine Left.pure (i := 22) (v := undef) rfl (by kernel_rfl) (fun _ _ _ h => h) (Or.inr hS) (Or.inr ⟨by kernel_rfl, rfl⟩) ?restB1_22
  try simp only [Act.put, List.setIfInBounds_toArray, List.set_cons_zero, List.set_cons_succ]
  refine Left.pure (i := 23) (v := undef) rfl (by kernel_rfl) (fun _ _ _ h => h) (Or.inr hS) (Or.inr ⟨by kernel_rfl, rfl⟩) ?restB1_23
  try simp only [Act.put, List.setIfInBounds_toArray, List.set_cons_zero, List.set_cons_succ]
  refine Left.pure (i := 24) (v := undef) rfl (by kernel_rfl) (fun _ _ _ h => h) (Or.inr hS) (Or.inr ⟨by kernel_rfl, rfl⟩) ?restB1_24
  try simp only [Act.put, List.setIfInBounds_toArray, List.set_cons_zero, List.set_cons_succ]
  refine Left.pure (i := 25) (v := undef) rfl (by kernel_rfl) (fun _ _ _ h => h) (Or.inr hS) (Or.inr ⟨by kernel_rfl, rfl⟩) ?restB1_25
  try simp only [Act.put, List.setIfInBounds_toArray, List.set_cons_zero, List.set_cons_succ]
  refine Left.pure (i := 26) (v := undef) rfl (by kernel_rfl) (fun _ _ _ h => h) (Or.inr hS) (Or.inr ⟨by kernel_rfl, rfl⟩) ?restB1_26
  try simp only [Act.put, List.setIfInBounds_toArray, List.set_cons_zero, List.set_cons_succ]
  refine Left.pure (i := 27) (v := undef) rfl (by kernel_rfl) (fun _ _ _ h => h) (Or.inr hS) (Or.inr ⟨by kernel_rfl, rfl⟩) ?restB1_27
  try simp only [Act.put, List.setIfInBounds_toArray, List.set_cons_zero, List.set_cons_succ]
  refine Left.pure (i := 28) (v := undef) rfl (by kernel_rfl) (fun _ _ _ h => h) (Or.inr hS) (Or.inr ⟨by kernel_rfl, rfl⟩) ?restB1_28
  try simp only [Act.put, List.setIfInBounds_toArray, List.set_cons_zero, List.set_cons_succ]
  refine Left.pure (i := 29) (v := undef) rfl (by kernel_rfl) (fun _ _ _ h => h) (Or.inr hS) (Or.inr ⟨by kernel_rfl, rfl⟩) ?restB1_29
  try simp only [Act.put, List.setIfInBounds_toArray, List.set_cons_zero, List.set_cons_succ]
  refine Left.pure (i := 30) (v := undef) rfl (by kernel_rfl) (fun _ _ _ h => h) (Or.inr hS) (Or.inr ⟨by kernel_rfl, rfl⟩) ?restB1_30
  try simp only [Act.put, List.setIfInBounds_toArray, List.set_cons_zero, List.set_cons_succ]
  refine Left.pure (i := 31) (v := undef) rfl (by kernel_rfl) (fun _ _ _ h => h) (Or.inr hS) (Or.inr ⟨by kernel_rfl, rfl⟩) ?restB1_31
  try simp only [Act.put, List.setIfInBounds_toArray, List.set_cons_zero, List.set_cons_succ]
  refine Left.run (i := 32) rfl (by kernel_rfl) (fun K hK => ?_)
  go_simp
  replace hS : (fun w' : World => w'.cell? ⟨bt, 0, none⟩ = some (.pointer (some ⟨p, 0, none⟩)) ∧ w'.cell? ⟨p, 4, none⟩ = some (.int .u64 s.epoch) ∧ w'.cell? ⟨p, 7, none⟩ = some (.map (some v.m1)) ∧ w'.cell? ⟨p, 10, none⟩ = some (.int .u64 s.under) ∧ w'.cell? ⟨p, 11, none⟩ = some (.int .u64 s.durable) ∧ w'.cell? ⟨p, 1, none⟩ = some v.vs) w2 := by exact hS
  refine hK.out _ _ (Or.inr hS) ?_
  clear hK K
  try simp only [Act.put, List.setIfInBounds_toArray, List.set_cons_zero, List.set_cons_succ]
  refine Left.pure (i := 33) (v := undef) rfl (by kernel_rfl) (fun _ _ _ h => h) (Or.inr hS) (Or.inr ⟨by kernel_rfl, rfl⟩) ?restB1_33
  try simp only [Act.put, List.setIfInBounds_toArray, List.set_cons_zero, List.set_cons_succ]
  refine Left.pure (i := 34) (v := undef) rfl (by kernel_rfl) (fun _ _ _ h => h) (Or.inr hS) (Or.inr ⟨by kernel_rfl, rfl⟩) ?restB1_34
  try simp only [Act.put, List.setIfInBounds_toArray, List.set_cons_zero, List.set_cons_succ]
  refine Left.pure (i := 35) (v := ?vB1_35) rfl (by kernel_rfl) (fun _ _ _ h => h) (Or.inr hS) (Or.inl ⟨by kernel_rfl, fun w _ => ?hyB1_35⟩) ?restB1_35
  case hyB1_35 => (go_simp; try with_reducible rfl)
  try simp only [Act.put, List.setIfInBounds_toArray, List.set_cons_zero, List.set_cons_succ]
  refine Left.run (i := 36) rfl (by kernel_rfl) (fun K hK => ?_)
  go_simp
  refine hK.out _ _ (Or.inl (by kernel_rfl)) ?_
  clear hK K
  try simp only [Act.put, List.setIfInBounds_toArray, List.set_cons_zero, List.set_cons_succ]
  refine Left.done (by kernel_rfl) ?_ _

  go_wp2_with fail
  go_ret
  exact ⟨rfl, H2.out.at1.tail⟩
set_option maxRecDepth 100000 in
set_option maxHeartbeats 600000 in
theorem settled_C (p bt : Nat) (v : Vs) (s : Co) (w w1 w0 : World) (R : List HP) (he : (s.epoch != 0) = true) (hu : (s.under == 0) = false) (hw1 : w.alloc (.cells #[.pointer (some ⟨p, 0, none⟩)] 25) = w1) (hbt : w.heap.size = bt)
    (H1 : Hid (Hs w0 w1 (CoV p v s :: Blk bt (.cells #[.pointer (some ⟨p, 0, none⟩)] 25 (0, 0)) :: R))) (ha : Hid (∀ w', Hs w0 w' (CoV p v s :: Blk bt (.cells #[.pointer (some ⟨p, 0, none⟩)] 25 (0, 0)) :: R) → Calls Try.prog 26 #[.pointer (some ⟨p, 0, none⟩), .map (some v.m1)] w' fun e w'' => e = .returned (.bool true) ∧ Hs w0 w'' (CoV p v s :: Blk bt (.cells #[.pointer (some ⟨p, 0, none⟩)] 25 (0, 0)) :: R))) : Calls Try.prog 19 #[.pointer (some ⟨p, 0, none⟩)] w fun e w' => e = .returned (.bool false) ∧ Hs w0 w' (CoV p v s :: R) := by
  replace hw1 := Lib.hid hw1
  replace hbt := Lib.hid hbt
  go_enter Try.func19, Try.ntmps19
  go_upto_region 1 with (fail)
  rw [hw1.out, hbt.out]
  refine wp_region_left (S := fun w' : World => w'.cell? ⟨bt, 0, none⟩ = some (.pointer (some ⟨p, 0, none⟩)) ∧ w'.cell? ⟨p, 4, none⟩ = some (.int .u64 s.epoch) ∧ w'.cell? ⟨p, 7, none⟩ = some (.map (some v.m1)) ∧ w'.cell? ⟨p, 10, none⟩ = some (.int .u64 s.under) ∧ w'.cell? ⟨p, 11, none⟩ = some (.int .u64 s.durable) ∧ w'.cell? ⟨p, 1, none⟩ = some v.vs) 36 mixed ?_
  have hS : (fun w' : World => w'.cell? ⟨bt, 0, none⟩ = some (.pointer (some ⟨p, 0, none⟩)) ∧ w'.cell? ⟨p, 4, none⟩ = some (.int .u64 s.epoch) ∧ w'.cell? ⟨p, 7, none⟩ = some (.map (some v.m1)) ∧ w'.cell? ⟨p, 10, none⟩ = some (.int .u64 s.under) ∧ w'.cell? ⟨p, 11, none⟩ = some (.int .u64 s.durable) ∧ w'.cell? ⟨p, 1, none⟩ = some v.vs) w1.drew := by exact ⟨(H1.out.drew).at1.cellOf 0 rfl, CoV.cell (H1.out.drew) 4 rfl, CoV.cell (H1.out.drew) 7 rfl, CoV.cell (H1.out.drew) 10 rfl, CoV.cell (H1.out.drew) 11 rfl, CoV.cell (H1.out.drew) 1 rfl⟩
  refine Left.take (i := 0) (v := ?vC1_0) rfl (by kernel_rfl) (fun _ _ _ h => h) hS (Or.inl ⟨by kernel_rfl, fun w hSw => ?hyC1_0⟩) ?restC1_0
  case hyC1_0 => ((try dsimp only at hSw); go_simp; try with_reducible rfl)
  try simp only [Act.put, List.setIfInBounds_toArray, List.set_cons_zero, List.set_cons_succ]
  refine Left.pure (i := 1) (v := ?vC1_1) rfl (by kernel_rfl) (fun _ _ _ h => h) (Or.inr hS) (Or.inl ⟨by kernel_rfl, fun w _ => ?hyC1_1⟩) ?restC1_1
  case hyC1_1 => (go_simp; try with_reducible rfl)
  try simp only [Act.put, List.setIfInBounds_toArray, List.set_cons_zero, List.set_cons_succ]
  refine Left.pure (i := 2) (v := ?vC1_2) rfl (by kernel_rfl) (fun _ _ _ h => h) (Or.inr hS) (Or.inl ⟨by kernel_rfl, fun w _ => ?hyC1_2⟩) ?restC1_2
  case hyC1_2 => (go_simp; try with_reducible rfl)
  try simp only [Act.put, List.setIfInBounds_toArray, List.set_cons_zero, List.set_cons_succ]
  refine Left.take (i := 3) (v := ?vC1_3) rfl (by kernel_rfl) (fun _ _ _ h => h) hS (Or.inl ⟨by kernel_rfl, fun w hSw => ?hyC1_3⟩) ?restC1_3
  case hyC1_3 => ((try dsimp only at hSw); go_simp; try with_reducible rfl)
  try simp only [Act.put, List.setIfInBounds_toArray, List.set_cons_zero, List.set_cons_succ]
  refine Left.pure (i := 4) (v := ?vC1_4) rfl (by kernel_rfl) (fun _ _ _ h => h) (Or.inr hS) (Or.inl ⟨by kernel_rfl, fun w _ => ?hyC1_4⟩) ?restC1_4
  case hyC1_4 => (go_simp; try with_reducible rfl)
  try simp only [Act.put, List.setIfInBounds_toArray, List.set_cons_zero, List.set_cons_succ]
  refine Left.pure (i := 5) (v := ?vC1_5) rfl (by kernel_rfl) (fun _ _ _ h => h) (Or.inr hS) (Or.inl ⟨by kernel_rfl, fun w _ => ?hyC1_5⟩) ?restC1_5
  case hyC1_5 => (go_simp; try with_reducible rfl)
  try simp only [Act.put, List.setIfInBounds_toArray, List.set_cons_zero, List.set_cons_succ]
  refine Left.take (i := 6) (v := ?vC1_6) rfl (by kernel_rfl) (fun _ _ _ h => h) hS (Or.inl ⟨by kernel_rfl, fun w hSw => ?hyC1_6⟩) ?restC1_6
  case hyC1_6 => ((try dsimp only at hSw); go_simp; try with_reducible rfl)
  try simp only [Act.put, List.setIfInBounds_toArray, List.set_cons_zero, List.set_cons_succ]
  refine Left.take (i := 7) (v := ?vC1_7) rfl (by kernel_rfl) (fun _ _ _ h => h) hS (Or.inl ⟨by kernel_rfl, fun w hSw => ?hyC1_7⟩) ?restC1_7
  case hyC1_7 => ((try dsimp only at hSw); go_simp; try with_reducible rfl)
  try simp only [Act.put, List.setIfInBounds_toArray, List.set_cons_zero, List.set_cons_succ]
  refine Left.pure (i := 8) (v := ?vC1_8) rfl (by kernel_rfl) (fun _ _ _ h => h) (Or.inr hS) (Or.inl ⟨by kernel_rfl, fun w _ => ?hyC1_8⟩) ?restC1_8
  case hyC1_8 => (go_simp; try with_reducible rfl)
  try simp only [Act.put, List.setIfInBounds_toArray, List.set_cons_zero, List.set_cons_succ]
  refine Left.pure (i := 9) (v := ?vC1_9) rfl (by kernel_rfl) (fun _ _ _ h => h) (Or.inr hS) (Or.inl ⟨by kernel_rfl, fun w _ => ?hyC1_9⟩) ?restC1_9
  case hyC1_9 => (go_simp; try with_reducible rfl)
  try simp only [Act.put, List.setIfInBounds_toArray, List.set_cons_zero, List.set_cons_succ]
  refine Left.take (i := 10) (v := ?vC1_10) rfl (by kernel_rfl) (fun _ _ _ h => h) hS (Or.inl ⟨by kernel_rfl, fun w hSw => ?hyC1_10⟩) ?restC1_10
  case hyC1_10 => ((try dsimp only at hSw); go_simp; try with_reducible rfl)
  try simp only [Act.put, List.setIfInBounds_toArray, List.set_cons_zero, List.set_cons_succ]
  refine Left.run (i := 11) rfl (by kernel_rfl) (fun K hK => ?_)
  go_simp
  go_at_call 26
  refine (ha.out _ H1.out.drew).mono ?_
  rintro e w2 ⟨rfl, H2⟩
  replace H2 := Lib.hid H2
  go_simp
  replace hS : (fun w' : World => w'.cell? ⟨bt, 0, none⟩ = some (.pointer (some ⟨p, 0, none⟩)) ∧ w'.cell? ⟨p, 4, none⟩ = some (.int .u64 s.epoch) ∧ w'.cell? ⟨p, 7, none⟩ = some (.map (some v.m1)) ∧ w'.cell? ⟨p, 10, none⟩ = some (.int .u64 s.under) ∧ w'.cell? ⟨p, 11, none⟩ = some (.int .u64 s.durable) ∧ w'.cell? ⟨p, 1, none⟩ = some v.vs) w2 := by exact ⟨(H2.out).at1.cellOf 0 rfl, CoV.cell (H2.out) 4 rfl, CoV.cell (H2.out) 7 rfl, CoV.cell (H2.out) 10 rfl, CoV.cell (H2.out) 11 rfl, CoV.cell (H2.out) 1 rfl⟩
  refine hK.out _ _ (Or.inr hS) ?_
  clear hK K
  try simp only [Act.put, List.setIfInBounds_toArray, List.set_cons_zero, List.set_cons_succ]
  refine Left.pure (i := 12) (v := ?vC1_12) rfl (by kernel_rfl) (fun _ _ _ h => h) (Or.inr hS) (Or.inl ⟨by kernel_rfl, fun w _ => ?hyC1_12⟩) ?restC1_12
  case hyC1_12 => (go_simp; try with_reducible rfl)
  try simp only [Act.put, List.setIfInBounds_toArray, List.set_cons_zero, List.set_cons_succ]
  refine Left.pure (i := 13) (v := ?vC1_13) rfl (by kernel_rfl) (fun _ _ _ h => h) (Or.inr hS) (Or.inl ⟨by kernel_rfl, fun w _ => ?hyC1_13⟩) ?restC1_13
  case hyC1_13 => (go_simp; try with_reducible rfl)
  try simp only [Act.put, List.setIfInBounds_toArray, List.set_cons_zero, List.set_cons_succ]
  refine Left.take (i := 14) (v := ?vC1_14) rfl (by kernel_rfl) (fun _ _ _ h => h) hS (Or.inl ⟨by kernel_rfl, fun w hSw => ?hyC1_14⟩) ?restC1_14
  case hyC1_14 => ((try dsimp only at hSw); go_simp; try with_reducible rfl)
  try simp only [Act.put, List.setIfInBounds_toArray, List.set_cons_zero, List.set_cons_succ]
  refine Left.pure (i := 15) (v := ?vC1_15) rfl (by kernel_rfl) (fun _ _ _ h => h) (Or.inr hS) (Or.inl ⟨by kernel_rfl, fun w _ => ?hyC1_15⟩) ?restC1_15
  case hyC1_15 => (go_simp; try with_reducible rfl)
  try simp only [Act.put, List.setIfInBounds_toArray, List.set_cons_zero, List.set_cons_succ]
  refine Left.pure (i := 16) (v := ?vC1_16) rfl (by kernel_rfl) (fun _ _ _ h => h) (Or.inr hS) (Or.inl ⟨by kernel_rfl, fun w _ => ?hyC1_16⟩) ?restC1_16
  case hyC1_16 => (go_simp; try with_reducible rfl)
  try simp only [Act.put, List.setIfInBounds_toArray, List.set_cons_zero, List.set_cons_succ]
  refine Left.take (i := 17) (v := ?vC1_17) rfl (by kernel_rfl) (fun _ _ _ h => h) hS (Or.inl ⟨by kernel_rfl, fun w hSw => ?hyC1_17⟩) ?restC1_17
  case hyC1_17 => ((try dsimp only at hSw); go_simp; try with_reducible rfl)
  try simp only [Act.put, List.setIfInBounds_toArray, List.set_cons_zero, List.set_cons_succ]
  refine Left.pure (i := 18) (v := ?vC1_18) rfl (by kernel_rfl) (fun _ _ _ h => h) (Or.inr hS) (Or.inl ⟨by kernel_rfl, fun w _ => ?hyC1_18⟩) ?restC1_18
  case hyC1_18 => (go_simp; try with_reducible rfl)
  try simp only [Act.put, List.setIfInBounds_toArray, List.set_cons_zero, List.set_cons_succ]
  refine Left.pure (i := 19) (v := ?vC1_19) rfl (by kernel_rfl) (fun _ _ _ h => h) (Or.inr hS) (Or.inl ⟨by kernel_rfl, fun w _ => ?hyC1_19⟩) ?restC1_19
  case hyC1_19 => (go_simp; try with_reducible rfl)
  try simp only [Act.put, List.setIfInBounds_toArray, List.set_cons_zero, List.set_cons_succ]
  refine Left.pure (i := 20) (v := ?vC1_20) rfl (by kernel_rfl) (fun _ _ _ h => h) (Or.inr hS) (Or.inl ⟨by kernel_rfl, fun w _ => ?hyC1_20⟩) ?restC1_20
  case hyC1_20 => (go_simp; try with_reducible rfl)
  try simp only [Act.put, List.setIfInBounds_toArray, List.set_cons_zero, List.set_cons_succ]
  refine Left.pure (i := 21) (v := undef) rfl (by kernel_rfl) (fun _ _ _ h => h) (Or.inr hS) (Or.inr ⟨by kernel_rfl, rfl⟩) ?restC1_21
  try simp only [Act.put, List.setIfInBounds_toArray, List.set_cons_zero, List.set_cons_succ]
  refine Left.pure (i := 22) (v := undef) rfl (by kernel_rfl) (fun _ _ _ h => h) (Or.inr hS) (Or.inr ⟨by kernel_rfl, rfl⟩) ?restC1_22
  try simp only [Act.put, List.setIfInBounds_toArray, List.set_cons_zero, List.set_cons_succ]
  refine Left.pure (i := 23) (v := undef) rfl (by kernel_rfl) (fun _ _ _ h => h) (Or.inr hS) (Or.inr ⟨by kernel_rfl, rfl⟩) ?restC1_23
  try simp only [Act.put, List.setIfInBounds_toArray, List.set_cons_zero, List.set_cons_succ]
  refine Left.pure (i := 24) (v := undef) rfl (by kernel_rfl) (fun _ _ _ h => h) (Or.inr hS) (Or.inr ⟨by kernel_rfl, rfl⟩) ?restC1_24
  try simp only [Act.put, List.setIfInBounds_toArray, List.set_cons_zero, List.set_cons_succ]
  refine Left.pure (i := 25) (v := undef) rfl (by kernel_rfl) (fun _ _ _ h => h) (Or.inr hS) (Or.inr ⟨by kernel_rfl, rfl⟩) ?restC1_25
  try simp only [Act.put, List.setIfInBounds_toArray, List.set_cons_zero, List.set_cons_succ]
  refine Left.pure (i := 26) (v := undef) rfl (by kernel_rfl) (fun _ _ _ h => h) (Or.inr hS) (Or.inr ⟨by kernel_rfl, rfl⟩) ?restC1_26
  try simp only [Act.put, List.setIfInBounds_toArray, List.set_cons_zero, List.set_cons_succ]
  refine Left.pure (i := 27) (v := undef) rfl (by kernel_rfl) (fun _ _ _ h => h) (Or.inr hS) (Or.inr ⟨by kernel_rfl, rfl⟩) ?restC1_27
  try simp only [Act.put, List.setIfInBounds_toArray, List.set_cons_zero, List.set_cons_succ]
  refine Left.pure (i := 28) (v := undef) rfl (by kernel_rfl) (fun _ _ _ h => h) (Or.inr hS) (Or.inr ⟨by kernel_rfl, rfl⟩) ?restC1_28
  try simp only [Act.put, List.setIfInBounds_toArray, List.set_cons_zero, List.set_cons_succ]
  refine Left.pure (i := 29) (v := undef) rfl (by kernel_rfl) (fun _ _ _ h => h) (Or.inr hS) (Or.inr ⟨by kernel_rfl, rfl⟩) ?restC1_29
  try simp only [Act.put, List.setIfInBounds_toArray, List.set_cons_zero, List.set_cons_succ]
  refine Left.pure (i := 30) (v := undef) rfl (by kernel_rfl) (fun _ _ _ h => h) (Or.inr hS) (Or.inr ⟨by kernel_rfl, rfl⟩) ?restC1_30
  try simp only [Act.put, List.setIfInBounds_toArray, List.set_cons_zero, List.set_cons_succ]
  refine Left.pure (i := 31) (v := undef) rfl (by kernel_rfl) (fun _ _ _ h => h) (Or.inr hS) (Or.inr ⟨by kernel_rfl, rfl⟩) ?restC1_31
  try simp only [Act.put, List.setIfInBounds_toArray, List.set_cons_zero, List.set_cons_succ]
  refine Left.run (i := 32) rfl (by kernel_rfl) (fun K hK => ?_)
  go_simp
  replace hS : (fun w' : World => w'.cell? ⟨bt, 0, none⟩ = some (.pointer (some ⟨p, 0, none⟩)) ∧ w'.cell? ⟨p, 4, none⟩ = some (.int .u64 s.epoch) ∧ w'.cell? ⟨p, 7, none⟩ = some (.map (some v.m1)) ∧ w'.cell? ⟨p, 10, none⟩ = some (.int .u64 s.under) ∧ w'.cell? ⟨p, 11, none⟩ = some (.int .u64 s.durable) ∧ w'.cell? ⟨p, 1, none⟩ = some v.vs) w2 := by exact hS
  refine hK.out _ _ (Or.inr hS) ?_
  clear hK K
  try simp only [Act.put, List.setIfInBounds_toArray, List.set_cons_zero, List.set_cons_succ]
  refine Left.pure (i := 33) (v := undef) rfl (by kernel_rfl) (fun _ _ _ h => h) (Or.inr hS) (Or.inr ⟨by kernel_rfl, rfl⟩) ?restC1_33
  try simp only [Act.put, List.setIfInBounds_toArray, List.set_cons_zero, List.set_cons_succ]
  refine Left.pure (i := 34) (v := undef) rfl (by kernel_rfl) (fun _ _ _ h => h) (Or.inr hS) (Or.inr ⟨by kernel_rfl, rfl⟩) ?restC1_34
  try simp only [Act.put, List.setIfInBounds_toArray, List.set_cons_zero, List.set_cons_succ]
  refine Left.pure (i := 35) (v := ?vC1_35) rfl (by kernel_rfl) (fun _ _ _ h => h) (Or.inr hS) (Or.inl ⟨by kernel_rfl, fun w _ => ?hyC1_35⟩) ?restC1_35
  case hyC1_35 => (go_simp; try with_reducible rfl)
  try simp only [Act.put, List.setIfInBounds_toArray, List.set_cons_zero, List.set_cons_succ]
  refine Left.run (i := 36) rfl (by kernel_rfl) (fun K hK => ?_)
  go_simp
  refine hK.out _ _ (Or.inl (by kernel_rfl)) ?_
  clear hK K
  try simp only [Act.put, List.setIfInBounds_toArray, List.set_cons_zero, List.set_cons_succ]
  refine Left.done (by kernel_rfl) ?_ _

  go_wp2_with fail
  go_ret
  exact ⟨rfl, H2.out.at1.tail⟩
set_option maxRecDepth 100000 in
set_option maxHeartbeats 600000 in
theorem settled_D (p bt : Nat) (v : Vs) (s : Co) (w w1 w0 : World) (R : List HP) (he : (s.epoch != 0) = true) (hu : (s.under == 0) = true) (hd : (s.durable == 0) = true) (hw1 : w.alloc (.cells #[.pointer (some ⟨p, 0, none⟩)] 25) = w1) (hbt : w.heap.size = bt)
    (H1 : Hid (Hs w0 w1 (CoV p v s :: Blk bt (.cells #[.pointer (some ⟨p, 0, none⟩)] 25 (0, 0)) :: R))) (ha : Hid (∀ w', Hs w0 w' (CoV p v s :: Blk bt (.cells #[.pointer (some ⟨p, 0, none⟩)] 25 (0, 0)) :: R) → Calls Try.prog 26 #[.pointer (some ⟨p, 0, none⟩), .map (some v.m1)] w' fun e w'' => e = .returned (.bool true) ∧ Hs w0 w'' (CoV p v s :: Blk bt (.cells #[.pointer (some ⟨p, 0, none⟩)] 25 (0, 0)) :: R))) : Calls Try.prog 19 #[.pointer (some ⟨p, 0, none⟩)] w fun e w' => e = .returned (.bool true) ∧ Hs w0 w' (CoV p v s :: R) := by
  replace hw1 := Lib.hid hw1
  replace hbt := Lib.hid hbt
  go_enter Try.func19, Try.ntmps19
  go_upto_region 1 with (fail)
  rw [hw1.out, hbt.out]
  refine wp_region_left (S := fun w' : World => w'.cell? ⟨bt, 0, none⟩ = some (.pointer (some ⟨p, 0, none⟩)) ∧ w'.cell? ⟨p, 4, none⟩ = some (.int .u64 s.epoch) ∧ w'.cell? ⟨p, 7, none⟩ = some (.map (some v.m1)) ∧ w'.cell? ⟨p, 10, none⟩ = some (.int .u64 s.under) ∧ w'.cell? ⟨p, 11, none⟩ = some (.int .u64 s.durable) ∧ w'.cell? ⟨p, 1, none⟩ = some v.vs) 36 mixed ?_
  have hS : (fun w' : World => w'.cell? ⟨bt, 0, none⟩ = some (.pointer (some ⟨p, 0, none⟩)) ∧ w'.cell? ⟨p, 4, none⟩ = some (.int .u64 s.epoch) ∧ w'.cell? ⟨p, 7, none⟩ = some (.map (some v.m1)) ∧ w'.cell? ⟨p, 10, none⟩ = some (.int .u64 s.under) ∧ w'.cell? ⟨p, 11, none⟩ = some (.int .u64 s.durable) ∧ w'.cell? ⟨p, 1, none⟩ = some v.vs) w1.drew := by exact ⟨(H1.out.drew).at1.cellOf 0 rfl, CoV.cell (H1.out.drew) 4 rfl, CoV.cell (H1.out.drew) 7 rfl, CoV.cell (H1.out.drew) 10 rfl, CoV.cell (H1.out.drew) 11 rfl, CoV.cell (H1.out.drew) 1 rfl⟩
  refine Left.take (i := 0) (v := ?vD1_0) rfl (by kernel_rfl) (fun _ _ _ h => h) hS (Or.inl ⟨by kernel_rfl, fun w hSw => ?hyD1_0⟩) ?restD1_0
  case hyD1_0 => ((try dsimp only at hSw); go_simp; try with_reducible rfl)
  try simp only [Act.put, List.setIfInBounds_toArray, List.set_cons_zero, List.set_cons_succ]
  refine Left.pure (i := 1) (v := ?vD1_1) rfl (by kernel_rfl) (fun _ _ _ h => h) (Or.inr hS) (Or.inl ⟨by kernel_rfl, fun w _ => ?hyD1_1⟩) ?restD1_1
  case hyD1_1 => (go_simp; try with_reducible rfl)
  try simp only [Act.put, List.setIfInBounds_toArray, List.set_cons_zero, List.set_cons_succ]
  refine Left.pure (i := 2) (v := ?vD1_2) rfl (by kernel_rfl) (fun _ _ _ h => h) (Or.inr hS) (Or.inl ⟨by kernel_rfl, fun w _ => ?hyD1_2⟩) ?restD1_2
  case hyD1_2 => (go_simp; try with_reducible rfl)
  try simp only [Act.put, List.setIfInBounds_toArray, List.set_cons_zero, List.set_cons_succ]
  refine Left.take (i := 3) (v := ?vD1_3) rfl (by kernel_rfl) (fun _ _ _ h => h) hS (Or.inl ⟨by kernel_rfl, fun w hSw => ?hyD1_3⟩) ?restD1_3
  case hyD1_3 => ((try dsimp only at hSw); go_simp; try with_reducible rfl)
  try simp only [Act.put, List.setIfInBounds_toArray, List.set_cons_zero, List.set_cons_succ]
  refine Left.pure (i := 4) (v := ?vD1_4) rfl (by kernel_rfl) (fun _ _ _ h => h) (Or.inr hS) (Or.inl ⟨by kernel_rfl, fun w _ => ?hyD1_4⟩) ?restD1_4
  case hyD1_4 => (go_simp; try with_reducible rfl)
  try simp only [Act.put, List.setIfInBounds_toArray, List.set_cons_zero, List.set_cons_succ]
  refine Left.pure (i := 5) (v := ?vD1_5) rfl (by kernel_rfl) (fun _ _ _ h => h) (Or.inr hS) (Or.inl ⟨by kernel_rfl, fun w _ => ?hyD1_5⟩) ?restD1_5
  case hyD1_5 => (go_simp; try with_reducible rfl)
  try simp only [Act.put, List.setIfInBounds_toArray, List.set_cons_zero, List.set_cons_succ]
  refine Left.take (i := 6) (v := ?vD1_6) rfl (by kernel_rfl) (fun _ _ _ h => h) hS (Or.inl ⟨by kernel_rfl, fun w hSw => ?hyD1_6⟩) ?restD1_6
  case hyD1_6 => ((try dsimp only at hSw); go_simp; try with_reducible rfl)
  try simp only [Act.put, List.setIfInBounds_toArray, List.set_cons_zero, List.set_cons_succ]
  refine Left.take (i := 7) (v := ?vD1_7) rfl (by kernel_rfl) (fun _ _ _ h => h) hS (Or.inl ⟨by kernel_rfl, fun w hSw => ?hyD1_7⟩) ?restD1_7
  case hyD1_7 => ((try dsimp only at hSw); go_simp; try with_reducible rfl)
  try simp only [Act.put, List.setIfInBounds_toArray, List.set_cons_zero, List.set_cons_succ]
  refine Left.pure (i := 8) (v := ?vD1_8) rfl (by kernel_rfl) (fun _ _ _ h => h) (Or.inr hS) (Or.inl ⟨by kernel_rfl, fun w _ => ?hyD1_8⟩) ?restD1_8
  case hyD1_8 => (go_simp; try with_reducible rfl)
  try simp only [Act.put, List.setIfInBounds_toArray, List.set_cons_zero, List.set_cons_succ]
  refine Left.pure (i := 9) (v := ?vD1_9) rfl (by kernel_rfl) (fun _ _ _ h => h) (Or.inr hS) (Or.inl ⟨by kernel_rfl, fun w _ => ?hyD1_9⟩) ?restD1_9
  case hyD1_9 => (go_simp; try with_reducible rfl)
  try simp only [Act.put, List.setIfInBounds_toArray, List.set_cons_zero, List.set_cons_succ]
  refine Left.take (i := 10) (v := ?vD1_10) rfl (by kernel_rfl) (fun _ _ _ h => h) hS (Or.inl ⟨by kernel_rfl, fun w hSw => ?hyD1_10⟩) ?restD1_10
  case hyD1_10 => ((try dsimp only at hSw); go_simp; try with_reducible rfl)
  try simp only [Act.put, List.setIfInBounds_toArray, List.set_cons_zero, List.set_cons_succ]
  refine Left.run (i := 11) rfl (by kernel_rfl) (fun K hK => ?_)
  go_simp
  go_at_call 26
  refine (ha.out _ H1.out.drew).mono ?_
  rintro e w2 ⟨rfl, H2⟩
  replace H2 := Lib.hid H2
  go_simp
  replace hS : (fun w' : World => w'.cell? ⟨bt, 0, none⟩ = some (.pointer (some ⟨p, 0, none⟩)) ∧ w'.cell? ⟨p, 4, none⟩ = some (.int .u64 s.epoch) ∧ w'.cell? ⟨p, 7, none⟩ = some (.map (some v.m1)) ∧ w'.cell? ⟨p, 10, none⟩ = some (.int .u64 s.under) ∧ w'.cell? ⟨p, 11, none⟩ = some (.int .u64 s.durable) ∧ w'.cell? ⟨p, 1, none⟩ = some v.vs) w2 := by exact ⟨(H2.out).at1.cellOf 0 rfl, CoV.cell (H2.out) 4 rfl, CoV.cell (H2.out) 7 rfl, CoV.cell (H2.out) 10 rfl, CoV.cell (H2.out) 11 rfl, CoV.cell (H2.out) 1 rfl⟩
  refine hK.out _ _ (Or.inr hS) ?_
  clear hK K
  try simp only [Act.put, List.setIfInBounds_toArray, List.set_cons_zero, List.set_cons_succ]
  refine Left.pure (i := 12) (v := ?vD1_12) rfl (by kernel_rfl) (fun _ _ _ h => h) (Or.inr hS) (Or.inl ⟨by kernel_rfl, fun w _ => ?hyD1_12⟩) ?restD1_12
  case hyD1_12 => (go_simp; try with_reducible rfl)
  try simp only [Act.put, List.setIfInBounds_toArray, List.set_cons_zero, List.set_cons_succ]
  refine Left.pure (i := 13) (v := ?vD1_13) rfl (by kernel_rfl) (fun _ _ _ h => h) (Or.inr hS) (Or.inl ⟨by kernel_rfl, fun w _ => ?hyD1_13⟩) ?restD1_13
  case hyD1_13 => (go_simp; try with_reducible rfl)
  try simp only [Act.put, List.setIfInBounds_toArray, List.set_cons_zero, List.set_cons_succ]
  refine Left.take (i := 14) (v := ?vD1_14) rfl (by kernel_rfl) (fun _ _ _ h => h) hS (Or.inl ⟨by kernel_rfl, fun w hSw => ?hyD1_14⟩) ?restD1_14
  case hyD1_14 => ((try dsimp only at hSw); go_simp; try with_reducible rfl)
  try simp only [Act.put, List.setIfInBounds_toArray, List.set_cons_zero, List.set_cons_succ]
  refine Left.pure (i := 15) (v := ?vD1_15) rfl (by kernel_rfl) (fun _ _ _ h => h) (Or.inr hS) (Or.inl ⟨by kernel_rfl, fun w _ => ?hyD1_15⟩) ?restD1_15
  case hyD1_15 => (go_simp; try with_reducible rfl)
  try simp only [Act.put, List.setIfInBounds_toArray, List.set_cons_zero, List.set_cons_succ]
  refine Left.pure (i := 16) (v := ?vD1_16) rfl (by kernel_rfl) (fun _ _ _ h => h) (Or.inr hS) (Or.inl ⟨by kernel_rfl, fun w _ => ?hyD1_16⟩) ?restD1_16
  case hyD1_16 => (go_simp; try with_reducible rfl)
  try simp only [Act.put, List.setIfInBounds_toArray, List.set_cons_zero, List.set_cons_succ]
  refine Left.take (i := 17) (v := ?vD1_17) rfl (by kernel_rfl) (fun _ _ _ h => h) hS (Or.inl ⟨by kernel_rfl, fun w hSw => ?hyD1_17⟩) ?restD1_17
  case hyD1_17 => ((try dsimp only at hSw); go_simp; try with_reducible rfl)
  try simp only [Act.put, List.setIfInBounds_toArray, List.set_cons_zero, List.set_cons_succ]
  refine Left.pure (i := 18) (v := ?vD1_18) rfl (by kernel_rfl) (fun _ _ _ h => h) (Or.inr hS) (Or.inl ⟨by kernel_rfl, fun w _ => ?hyD1_18⟩) ?restD1_18
  case hyD1_18 => (go_simp; try with_reducible rfl)
  try simp only [Act.put, List.setIfInBounds_toArray, List.set_cons_zero, List.set_cons_succ]
  refine Left.pure (i := 19) (v := ?vD1_19) rfl (by kernel_rfl) (fun _ _ _ h => h) (Or.inr hS) (Or.inl ⟨by kernel_rfl, fun w _ => ?hyD1_19⟩) ?restD1_19
  case hyD1_19 => (go_simp; try with_reducible rfl)
  try simp only [Act.put, List.setIfInBounds_toArray, List.set_cons_zero, List.set_cons_succ]
  refine Left.pure (i := 20) (v := ?vD1_20) rfl (by kernel_rfl) (fun _ _ _ h => h) (Or.inr hS) (Or.inl ⟨by kernel_rfl, fun w _ => ?hyD1_20⟩) ?restD1_20
  case hyD1_20 => (go_simp; try with_reducible rfl)
  try simp only [Act.put, List.setIfInBounds_toArray, List.set_cons_zero, List.set_cons_succ]
  refine Left.take (i := 21) (v := ?vD1_21) rfl (by kernel_rfl) (fun _ _ _ h => h) hS (Or.inl ⟨by kernel_rfl, fun w hSw => ?hyD1_21⟩) ?restD1_21
  case hyD1_21 => ((try dsimp only at hSw); go_simp; try with_reducible rfl)
  try simp only [Act.put, List.setIfInBounds_toArray, List.set_cons_zero, List.set_cons_succ]
  refine Left.pure (i := 22) (v := ?vD1_22) rfl (by kernel_rfl) (fun _ _ _ h => h) (Or.inr hS) (Or.inl ⟨by kernel_rfl, fun w _ => ?hyD1_22⟩) ?restD1_22
  case hyD1_22 => (go_simp; try with_reducible rfl)
  try simp only [Act.put, List.setIfInBounds_toArray, List.set_cons_zero, List.set_cons_succ]
  refine Left.pure (i := 23) (v := ?vD1_23) rfl (by kernel_rfl) (fun _ _ _ h => h) (Or.inr hS) (Or.inl ⟨by kernel_rfl, fun w _ => ?hyD1_23⟩) ?restD1_23
  case hyD1_23 => (go_simp; try with_reducible rfl)
  try simp only [Act.put, List.setIfInBounds_toArray, List.set_cons_zero, List.set_cons_succ]
  refine Left.take (i := 24) (v := ?vD1_24) rfl (by kernel_rfl) (fun _ _ _ h => h) hS (Or.inl ⟨by kernel_rfl, fun w hSw => ?hyD1_24⟩) ?restD1_24
  case hyD1_24 => ((try dsimp only at hSw); go_simp; try with_reducible rfl)
  try simp only [Act.put, List.setIfInBounds_toArray, List.set_cons_zero, List.set_cons_succ]
  refine Left.pure (i := 25) (v := ?vD1_25) rfl (by kernel_rfl) (fun _ _ _ h => h) (Or.inr hS) (Or.inl ⟨by kernel_rfl, fun w _ => ?hyD1_25⟩) ?restD1_25
  case hyD1_25 => (go_simp; try with_reducible rfl)
  try simp only [Act.put, List.setIfInBounds_toArray, List.set_cons_zero, List.set_cons_succ]
  refine Left.pure (i := 26) (v := ?vD1_26) rfl (by kernel_rfl) (fun _ _ _ h => h) (Or.inr hS) (Or.inl ⟨by kernel_rfl, fun w _ => ?hyD1_26⟩) ?restD1_26
  case hyD1_26 => (go_simp; try with_reducible rfl)
  try simp only [Act.put, List.setIfInBounds_toArray, List.set_cons_zero, List.set_cons_succ]
  refine Left.pure (i := 27) (v := undef) rfl (by kernel_rfl) (fun _ _ _ h => h) (Or.inr hS) (Or.inr ⟨by kernel_rfl, rfl⟩) ?restD1_27
  try simp only [Act.put, List.setIfInBounds_toArray, List.set_cons_zero, List.set_cons_succ]
  refine Left.pure (i := 28) (v := undef) rfl (by kernel_rfl) (fun _ _ _ h => h) (Or.inr hS) (Or.inr ⟨by kernel_rfl, rfl⟩) ?restD1_28
  try simp only [Act.put, List.setIfInBounds_toArray, List.set_cons_zero, List.set_cons_succ]
  refine Left.pure (i := 29) (v := undef) rfl (by kernel_rfl) (fun _ _ _ h => h) (Or.inr hS) (Or.inr ⟨by kernel_rfl, rfl⟩) ?restD1_29
  try simp only [Act.put, List.setIfInBounds_toArray, List.set_cons_zero, List.set_cons_succ]
  refine Left.pure (i := 30) (v := undef) rfl (by kernel_rfl) (fun _ _ _ h => h) (Or.inr hS) (Or.inr ⟨by kernel_rfl, rfl⟩) ?restD1_30
  try simp only [Act.put, List.setIfInBounds_toArray, List.set_cons_zero, List.set_cons_succ]
  refine Left.pure (i := 31) (v := undef) rfl (by kernel_rfl) (fun _ _ _ h => h) (Or.inr hS) (Or.inr ⟨by kernel_rfl, rfl⟩) ?restD1_31
  try simp only [Act.put, List.setIfInBounds_toArray, List.set_cons_zero, List.set_cons_succ]
  refine Left.run (i := 32) rfl (by kernel_rfl) (fun K hK => ?_)
  go_simp
  replace hS : (fun w' : World => w'.cell? ⟨bt, 0, none⟩ = some (.pointer (some ⟨p, 0, none⟩)) ∧ w'.cell? ⟨p, 4, none⟩ = some (.int .u64 s.epoch) ∧ w'.cell? ⟨p, 7, none⟩ = some (.map (some v.m1)) ∧ w'.cell? ⟨p, 10, none⟩ = some (.int .u64 s.under) ∧ w'.cell? ⟨p, 11, none⟩ = some (.int .u64 s.durable) ∧ w'.cell? ⟨p, 1, none⟩ = some v.vs) w2 := by exact hS
  refine hK.out _ _ (Or.inr hS) ?_
  clear hK K
  try simp only [Act.put, List.setIfInBounds_toArray, List.set_cons_zero, List.set_cons_succ]
  refine Left.pure (i := 33) (v := undef) rfl (by kernel_rfl) (fun _ _ _ h => h) (Or.inr hS) (Or.inr ⟨by kernel_rfl, rfl⟩) ?restD1_33
  try simp only [Act.put, List.setIfInBounds_toArray, List.set_cons_zero, List.set_cons_succ]
  refine Left.pure (i := 34) (v := ?vD1_34) rfl (by kernel_rfl) (fun _ _ _ h => h) (Or.inr hS) (Or.inl ⟨by kernel_rfl, fun w _ => ?hyD1_34⟩) ?restD1_34
  case hyD1_34 => (go_simp; try with_reducible rfl)
  try simp only [Act.put, List.setIfInBounds_toArray, List.set_cons_zero, List.set_cons_succ]
  refine Left.pure (i := 35) (v := ?vD1_35) rfl (by kernel_rfl) (fun _ _ _ h => h) (Or.inr hS) (Or.inl ⟨by kernel_rfl, fun w _ => ?hyD1_35⟩) ?restD1_35
  case hyD1_35 => (go_simp; try with_reducible rfl)
  try simp only [Act.put, List.setIfInBounds_toArray, List.set_cons_zero, List.set_cons_succ]
  refine Left.run (i := 36) rfl (by kernel_rfl) (fun K hK => ?_)
  go_simp
  refine hK.out _ _ (Or.inl (by kernel_rfl)) ?_
  clear hK K
  try simp only [Act.put, List.setIfInBounds_toArray, List.set_cons_zero, List.set_cons_succ]
  refine Left.done (by kernel_rfl) ?_ _

  go_wp2_with fail
  go_ret
  exact ⟨rfl, H2.out.at1.tail⟩
set_option maxRecDepth 100000 in
set_option maxHeartbeats 600000 in
theorem settled_E (p bt : Nat) (v : Vs) (s : Co) (w w1 w0 : World) (R : List HP) (cb : Bool) (he : (s.epoch != 0) = true) (hu : (s.under == 0) = true) (hd : (s.durable == 0) = false) (hw1 : w.alloc (.cells #[.pointer (some ⟨p, 0, none⟩)] 25) = w1) (hbt : w.heap.size = bt)
    (H1 : Hid (Hs w0 w1 (CoV p v s :: Blk bt (.cells #[.pointer (some ⟨p, 0, none⟩)] 25 (0, 0)) :: R))) (ha : Hid (∀ w', Hs w0 w' (CoV p v s :: Blk bt (.cells #[.pointer (some ⟨p, 0, none⟩)] 25 (0, 0)) :: R) → Calls Try.prog 26 #[.pointer (some ⟨p, 0, none⟩), .map (some v.m1)] w' fun e w'' => e = .returned (.bool true) ∧ Hs w0 w'' (CoV p v s :: Blk bt (.cells #[.pointer (some ⟨p, 0, none⟩)] 25 (0, 0)) :: R))) (hc : Hid (∀ w', Hs w0 w' (CoV p v s :: Blk bt (.cells #[.pointer (some ⟨p, 0, none⟩)] 25 (0, 0)) :: R) → Calls Try.prog 30 #[v.vs, .func (.func 31) #[] #[.pointer (some ⟨bt, 0, none⟩)]] w' fun e w'' => e = .returned (.bool (!cb)) ∧ ∃ n, w'' = w'.drewN n)) : Calls Try.prog 19 #[.pointer (some ⟨p, 0, none⟩)] w fun e w' => e = .returned (.bool cb) ∧ Hs w0 w' (CoV p v s :: R) := by
  replace hw1 := Lib.hid hw1
  replace hbt := Lib.hid hbt
  go_enter Try.func19, Try.ntmps19
  go_upto_region 1 with (fail)
  rw [hw1.out, hbt.out]
  refine wp_region_left (S := fun w' : World => w'.cell? ⟨bt, 0, none⟩ = some (.pointer (some ⟨p, 0, none⟩)) ∧ w'.cell? ⟨p, 4, none⟩ = some (.int .u64 s.epoch) ∧ w'.cell? ⟨p, 7, none⟩ = some (.map (some v.m1)) ∧ w'.cell? ⟨p, 10, none⟩ = some (.int .u64 s.under) ∧ w'.cell? ⟨p, 11, none⟩ = some (.int .u64 s.durable) ∧ w'.cell? ⟨p, 1, none⟩ = some v.vs) 36 mixed ?_
  have hS : (fun w' : World => w'.cell? ⟨bt, 0, none⟩ = some (.pointer (some ⟨p, 0, none⟩)) ∧ w'.cell? ⟨p, 4, none⟩ = some (.int .u64 s.epoch) ∧ w'.cell? ⟨p, 7, none⟩ = some (.map (some v.m1)) ∧ w'.cell? ⟨p, 10, none⟩ = some (.int .u64 s.under) ∧ w'.cell? ⟨p, 11, none⟩ = some (.int .u64 s.durable) ∧ w'.cell? ⟨p, 1, none⟩ = some v.vs) w1.drew := by exact ⟨(H1.out.drew).at1.cellOf 0 rfl, CoV.cell (H1.out.drew) 4 rfl, CoV.cell (H1.out.drew) 7 rfl, CoV.cell (H1.out.drew) 10 rfl, CoV.cell (H1.out.drew) 11 rfl, CoV.cell (H1.out.drew) 1 rfl⟩
  refine Left.take (i := 0) (v := ?vE1_0) rfl (by kernel_rfl) (fun _ _ _ h => h) hS (Or.inl ⟨by kernel_rfl, fun w hSw => ?hyE1_0⟩) ?restE1_0
  case hyE1_0 => ((try dsimp only at hSw); go_simp; try with_reducible rfl)
  try simp only [Act.put, List.setIfInBounds_toArray, List.set_cons_zero, List.set_cons_succ]
  refine Left.pure (i := 1) (v := ?vE1_1) rfl (by kernel_rfl) (fun _ _ _ h => h) (Or.inr hS) (Or.inl ⟨by kernel_rfl, fun w _ => ?hyE1_1⟩) ?restE1_1
  case hyE1_1 => (go_simp; try with_reducible rfl)
  try simp only [Act.put, List.setIfInBounds_toArray, List.set_cons_zero, List.set_cons_succ]
  refine Left.pure (i := 2) (v := ?vE1_2) rfl (by kernel_rfl) (fun _ _ _ h => h) (Or.inr hS) (Or.inl ⟨by kernel_rfl, fun w _ => ?hyE1_2⟩) ?restE1_2
  case hyE1_2 => (go_simp; try with_reducible rfl)
  try simp only [Act.put, List.setIfInBounds_toArray, List.set_cons_zero, List.set_cons_succ]
  refine Left.take (i := 3) (v := ?vE1_3) rfl (by kernel_rfl) (fun _ _ _ h => h) hS (Or.inl ⟨by kernel_rfl, fun w hSw => ?hyE1_3⟩) ?restE1_3
  case hyE1_3 => ((try dsimp only at hSw); go_simp; try with_reducible rfl)
  try simp only [Act.put, List.setIfInBounds_toArray, List.set_cons_zero, List.set_cons_succ]
  refine Left.pure (i := 4) (v := ?vE1_4) rfl (by kernel_rfl) (fun _ _ _ h => h) (Or.inr hS) (Or.inl ⟨by kernel_rfl, fun w _ => ?hyE1_4⟩) ?restE1_4
  case hyE1_4 => (go_simp; try with_reducible rfl)
  try simp only [Act.put, List.setIfInBounds_toArray, List.set_cons_zero, List.set_cons_succ]
  refine Left.pure (i := 5) (v := ?vE1_5) rfl (by kernel_rfl) (fun _ _ _ h => h) (Or.inr hS) (Or.inl ⟨by kernel_rfl, fun w _ => ?hyE1_5⟩) ?restE1_5
  case hyE1_5 => (go_simp; try with_reducible rfl)
  try simp only [Act.put, List.setIfInBounds_toArray, List.set_cons_zero, List.set_cons_succ]
  refine Left.take (i := 6) (v := ?vE1_6) rfl (by kernel_rfl) (fun _ _ _ h => h) hS (Or.inl ⟨by kernel_rfl, fun w hSw => ?hyE1_6⟩) ?restE1_6
  case hyE1_6 => ((try dsimp only at hSw); go_simp; try with_reducible rfl)
  try simp only [Act.put, List.setIfInBounds_toArray, List.set_cons_zero, List.set_cons_succ]
  refine Left.take (i := 7) (v := ?vE1_7) rfl (by kernel_rfl) (fun _ _ _ h => h) hS (Or.inl ⟨by kernel_rfl, fun w hSw => ?hyE1_7⟩) ?restE1_7
  case hyE1_7 => ((try dsimp only at hSw); go_simp; try with_reducible rfl)
  try simp only [Act.put, List.setIfInBounds_toArray, List.set_cons_zero, List.set_cons_succ]
  refine Left.pure (i := 8) (v := ?vE1_8) rfl (by kernel_rfl) (fun _ _ _ h => h) (Or.inr hS) (Or.inl ⟨by kernel_rfl, fun w _ => ?hyE1_8⟩) ?restE1_8
  case hyE1_8 => (go_simp; try with_reducible rfl)
  try simp only [Act.put, List.setIfInBounds_toArray, List.set_cons_zero, List.set_cons_succ]
  refine Left.pure (i := 9) (v := ?vE1_9) rfl (by kernel_rfl) (fun _ _ _ h => h) (Or.inr hS) (Or.inl ⟨by kernel_rfl, fun w _ => ?hyE1_9⟩) ?restE1_9
  case hyE1_9 => (go_simp; try with_reducible rfl)
  try simp only [Act.put, List.setIfInBounds_toArray, List.set_cons_zero, List.set_cons_succ]
  refine Left.take (i := 10) (v := ?vE1_10) rfl (by kernel_rfl) (fun _ _ _ h => h) hS (Or.inl ⟨by kernel_rfl, fun w hSw => ?hyE1_10⟩) ?restE1_10
  case hyE1_10 => ((try dsimp only at hSw); go_simp; try with_reducible rfl)
  try simp only [Act.put, List.setIfInBounds_toArray, List.set_cons_zero, List.set_cons_succ]
  refine Left.run (i := 11) rfl (by kernel_rfl) (fun K hK => ?_)
  go_simp
  go_at_call 26
  refine (ha.out _ H1.out.drew).mono ?_
  rintro e w2 ⟨rfl, H2⟩
  replace H2 := Lib.hid H2
  go_simp
  replace hS : (fun w' : World => w'.cell? ⟨bt, 0, none⟩ = some (.pointer (some ⟨p, 0, none⟩)) ∧ w'.cell? ⟨p, 4, none⟩ = some (.int .u64 s.epoch) ∧ w'.cell? ⟨p, 7, none⟩ = some (.map (some v.m1)) ∧ w'.cell? ⟨p, 10, none⟩ = some (.int .u64 s.under) ∧ w'.cell? ⟨p, 11, none⟩ = some (.int .u64 s.durable) ∧ w'.cell? ⟨p, 1, none⟩ = some v.vs) w2 := by exact ⟨(H2.out).at1.cellOf 0 rfl, CoV.cell (H2.out) 4 rfl, CoV.cell (H2.out) 7 rfl, CoV.cell (H2.out) 10 rfl, CoV.cell (H2.out) 11 rfl, CoV.cell (H2.out) 1 rfl⟩
  refine hK.out _ _ (Or.inr hS) ?_
  clear hK K
  try simp only [Act.put, List.setIfInBounds_toArray, List.set_cons_zero, List.set_cons_succ]
  refine Left.pure (i := 12) (v := ?vE1_12) rfl (by kernel_rfl) (fun _ _ _ h => h) (Or.inr hS) (Or.inl ⟨by kernel_rfl, fun w _ => ?hyE1_12⟩) ?restE1_12
  case hyE1_12 => (go_simp; try with_reducible rfl)
  try simp only [Act.put, List.setIfInBounds_toArray, List.set_cons_zero, List.set_cons_succ]
  refine Left.pure (i := 13) (v := ?vE1_13) rfl (by kernel_rfl) (fun _ _ _ h => h) (Or.inr hS) (Or.inl ⟨by kernel_rfl, fun w _ => ?hyE1_13⟩) ?restE1_13
  case hyE1_13 => (go_simp; try with_reducible rfl)
  try simp only [Act.put, List.setIfInBounds_toArray, List.set_cons_zero, List.set_cons_succ]
  refine Left.take (i := 14) (v := ?vE1_14) rfl (by kernel_rfl) (fun _ _ _ h => h) hS (Or.inl ⟨by kernel_rfl, fun w hSw => ?hyE1_14⟩) ?restE1_14
  case hyE1_14 => ((try dsimp only at hSw); go_simp; try with_reducible rfl)
  try simp only [Act.put, List.setIfInBounds_toArray, List.set_cons_zero, List.set_cons_succ]
  refine Left.pure (i := 15) (v := ?vE1_15) rfl (by kernel_rfl) (fun _ _ _ h => h) (Or.inr hS) (Or.inl ⟨by kernel_rfl, fun w _ => ?hyE1_15⟩) ?restE1_15
  case hyE1_15 => (go_simp; try with_reducible rfl)
  try simp only [Act.put, List.setIfInBounds_toArray, List.set_cons_zero, List.set_cons_succ]
  refine Left.pure (i := 16) (v := ?vE1_16) rfl (by kernel_rfl) (fun _ _ _ h => h) (Or.inr hS) (Or.inl ⟨by kernel_rfl, fun w _ => ?hyE1_16⟩) ?restE1_16
  case hyE1_16 => (go_simp; try with_reducible rfl)
  try simp only [Act.put, List.setIfInBounds_toArray, List.set_cons_zero, List.set_cons_succ]
  refine Left.take (i := 17) (v := ?vE1_17) rfl (by kernel_rfl) (fun _ _ _ h => h) hS (Or.inl ⟨by kernel_rfl, fun w hSw => ?hyE1_17⟩) ?restE1_17
  case hyE1_17 => ((try dsimp only at hSw); go_simp; try with_reducible rfl)
  try simp only [Act.put, List.setIfInBounds_toArray, List.set_cons_zero, List.set_cons_succ]
  refine Left.pure (i := 18) (v := ?vE1_18) rfl (by kernel_rfl) (fun _ _ _ h => h) (Or.inr hS) (Or.inl ⟨by kernel_rfl, fun w _ => ?hyE1_18⟩) ?restE1_18
  case hyE1_18 => (go_simp; try with_reducible rfl)
  try simp only [Act.put, List.setIfInBounds_toArray, List.set_cons_zero, List.set_cons_succ]
  refine Left.pure (i := 19) (v := ?vE1_19) rfl (by kernel_rfl) (fun _ _ _ h => h) (Or.inr hS) (Or.inl ⟨by kernel_rfl, fun w _ => ?hyE1_19⟩) ?restE1_19
  case hyE1_19 => (go_simp; try with_reducible rfl)
  try simp only [Act.put, List.setIfInBounds_toArray, List.set_cons_zero, List.set_cons_succ]
  refine Left.pure (i := 20) (v := ?vE1_20) rfl (by kernel_rfl) (fun _ _ _ h => h) (Or.inr hS) (Or.inl ⟨by kernel_rfl, fun w _ => ?hyE1_20⟩) ?restE1_20
  case hyE1_20 => (go_simp; try with_reducible rfl)
  try simp only [Act.put, List.setIfInBounds_toArray, List.set_cons_zero, List.set_cons_succ]
  refine Left.take (i := 21) (v := ?vE1_21) rfl (by kernel_rfl) (fun _ _ _ h => h) hS (Or.inl ⟨by kernel_rfl, fun w hSw => ?hyE1_21⟩) ?restE1_21
  case hyE1_21 => ((try dsimp only at hSw); go_simp; try with_reducible rfl)
  try simp only [Act.put, List.setIfInBounds_toArray, List.set_cons_zero, List.set_cons_succ]
  refine Left.pure (i := 22) (v := ?vE1_22) rfl (by kernel_rfl) (fun _ _ _ h => h) (Or.inr hS) (Or.inl ⟨by kernel_rfl, fun w _ => ?hyE1_22⟩) ?restE1_22
  case hyE1_22 => (go_simp; try with_reducible rfl)
  try simp only [Act.put, List.setIfInBounds_toArray, List.set_cons_zero, List.set_cons_succ]
  refine Left.pure (i := 23) (v := ?vE1_23) rfl (by kernel_rfl) (fun _ _ _ h => h) (Or.inr hS) (Or.inl ⟨by kernel_rfl, fun w _ => ?hyE1_23⟩) ?restE1_23
  case hyE1_23 => (go_simp; try with_reducible rfl)
  try simp only [Act.put, List.setIfInBounds_toArray, List.set_cons_zero, List.set_cons_succ]
  refine Left.take (i := 24) (v := ?vE1_24) rfl (by kernel_rfl) (fun _ _ _ h => h) hS (Or.inl ⟨by kernel_rfl, fun w hSw => ?hyE1_24⟩) ?restE1_24
  case hyE1_24 => ((try dsimp only at hSw); go_simp; try with_reducible rfl)
  try simp only [Act.put, List.setIfInBounds_toArray, List.set_cons_zero, List.set_cons_succ]
  refine Left.pure (i := 25) (v := ?vE1_25) rfl (by kernel_rfl) (fun _ _ _ h => h) (Or.inr hS) (Or.inl ⟨by kernel_rfl, fun w _ => ?hyE1_25⟩) ?restE1_25
  case hyE1_25 => (go_simp; try with_reducible rfl)
  try simp only [Act.put, List.setIfInBounds_toArray, List.set_cons_zero, List.set_cons_succ]
  refine Left.pure (i := 26) (v := ?vE1_26) rfl (by kernel_rfl) (fun _ _ _ h => h) (Or.inr hS) (Or.inl ⟨by kernel_rfl, fun w _ => ?hyE1_26⟩) ?restE1_26
  case hyE1_26 => (go_simp; try with_reducible rfl)
  try simp only [Act.put, List.setIfInBounds_toArray, List.set_cons_zero, List.set_cons_succ]
  refine Left.take (i := 27) (v := ?vE1_27) rfl (by kernel_rfl) (fun _ _ _ h => h) hS (Or.inl ⟨by kernel_rfl, fun w hSw => ?hyE1_27⟩) ?restE1_27
  case hyE1_27 => ((try dsimp only at hSw); go_simp; try with_reducible rfl)
  try simp only [Act.put, List.setIfInBounds_toArray, List.set_cons_zero, List.set_cons_succ]
  refine Left.pure (i := 28) (v := ?vE1_28) rfl (by kernel_rfl) (fun _ _ _ h => h) (Or.inr hS) (Or.inl ⟨by kernel_rfl, fun w _ => ?hyE1_28⟩) ?restE1_28
  case hyE1_28 => (go_simp; try with_reducible rfl)
  try simp only [Act.put, List.setIfInBounds_toArray, List.set_cons_zero, List.set_cons_succ]
  refine Left.pure (i := 29) (v := ?vE1_29) rfl (by kernel_rfl) (fun _ _ _ h => h) (Or.inr hS) (Or.inl ⟨by kernel_rfl, fun w _ => ?hyE1_29⟩) ?restE1_29
  case hyE1_29 => (go_simp; try with_reducible rfl)
  try simp only [Act.put, List.setIfInBounds_toArray, List.set_cons_zero, List.set_cons_succ]
  refine Left.take (i := 30) (v := ?vE1_30) rfl (by kernel_rfl) (fun _ _ _ h => h) hS (Or.inl ⟨by kernel_rfl, fun w hSw => ?hyE1_30⟩) ?restE1_30
  case hyE1_30 => ((try dsimp only at hSw); go_simp; try with_reducible rfl)
  try simp only [Act.put, List.setIfInBounds_toArray, List.set_cons_zero, List.set_cons_succ]
  refine Left.pure (i := 31) (v := ?vE1_31) rfl (by kernel_rfl) (fun _ _ _ h => h) (Or.inr hS) (Or.inl ⟨by kernel_rfl, fun w _ => ?hyE1_31⟩) ?restE1_31
  case hyE1_31 => (go_simp; try with_reducible rfl)
  try simp only [Act.put, List.setIfInBounds_toArray, List.set_cons_zero, List.set_cons_succ]
  refine Left.run (i := 32) rfl (by kernel_rfl) (fun K hK => ?_)
  go_simp
  go_at_call 30
  refine (hc.out _ H2.out).mono ?_
  rintro e w3 ⟨rfl, nq, rfl⟩
  have H3 := Lib.hid (H2.out.drewN nq)
  go_simp
  replace hS : (fun w' : World => w'.cell? ⟨bt, 0, none⟩ = some (.pointer (some ⟨p, 0, none⟩)) ∧ w'.cell? ⟨p, 4, none⟩ = some (.int .u64 s.epoch) ∧ w'.cell? ⟨p, 7, none⟩ = some (.map (some v.m1)) ∧ w'.cell? ⟨p, 10, none⟩ = some (.int .u64 s.under) ∧ w'.cell? ⟨p, 11, none⟩ = some (.int .u64 s.durable) ∧ w'.cell? ⟨p, 1, none⟩ = some v.vs) (w2.drewN nq) := by exact ⟨(H3.out).at1.cellOf 0 rfl, CoV.cell (H3.out) 4 rfl, CoV.cell (H3.out) 7 rfl, CoV.cell (H3.out) 10 rfl, CoV.cell (H3.out) 11 rfl, CoV.cell (H3.out) 1 rfl⟩
  refine hK.out _ _ (Or.inr hS) ?_
  clear hK K
  try simp only [Act.put, List.setIfInBounds_toArray, List.set_cons_zero, List.set_cons_succ]
  refine Left.pure (i := 33) (v := ?vE1_33) rfl (by kernel_rfl) (fun _ _ _ h => h) (Or.inr hS) (Or.inl ⟨by kernel_rfl, fun w _ => ?hyE1_33⟩) ?restE1_33
  case hyE1_33 => (go_simp; try with_reducible rfl)
  try simp only [Act.put, List.setIfInBounds_toArray, List.set_cons_zero, List.set_cons_succ]
  refine Left.pure (i := 34) (v := ?vE1_34) rfl (by kernel_rfl) (fun _ _ _ h => h) (Or.inr hS) (Or.inl ⟨by kernel_rfl, fun w _ => ?hyE1_34⟩) ?restE1_34
  case hyE1_34 => (go_simp; try with_reducible rfl)
  try simp only [Act.put, List.setIfInBounds_toArray, List.set_cons_zero, List.set_cons_succ]
  refine Left.pure (i := 35) (v := ?vE1_35) rfl (by kernel_rfl) (fun _ _ _ h => h) (Or.inr hS) (Or.inl ⟨by kernel_rfl, fun w _ => ?hyE1_35⟩) ?restE1_35
  case hyE1_35 => (go_simp; try with_reducible rfl)
  try simp only [Act.put, List.setIfInBounds_toArray, List.set_cons_zero, List.set_cons_succ]
  refine Left.run (i := 36) rfl (by kernel_rfl) (fun K hK => ?_)
  go_simp
  refine hK.out _ _ (Or.inl (by kernel_rfl)) ?_
  clear hK K
  try simp only [Act.put, List.setIfInBounds_toArray, List.set_cons_zero, List.set_cons_succ]
  refine Left.done (by kernel_rfl) ?_ _

  go_wp2_with fail
  go_ret
  exact ⟨rfl, H3.out.at1.tail⟩
theorem settled19 (p : Nat) (v : Vs) (s : Co) (w w0 : World) (R : List HP) (H : Hs w0 w (CoV p v s :: R)) (hlen : s.tasks.length ≤ 1000) (hlen2 : s.sinks.length ≤ 1000) :
    Calls Try.prog 19 #[.pointer (some ⟨p, 0, none⟩)] w fun e w' => e = .returned (.bool s.settled) ∧ Hs w0 w' (CoV p v s :: R) := by
  have H1 := Lib.hid ((H.alloc (.cells #[.pointer (some ⟨p, 0, none⟩)] 25)).at1)
  unfold Co.settled
  cases he : (s.epoch != 0) with
  | false =>
    simp only [Bool.false_and]
    exact settled_A p _ v s w _ w0 R he rfl rfl H1
  | true =>
    have ha : ∀ w', Hs w0 w' (CoV p v s :: Blk w.heap.size (.cells #[.pointer (some ⟨p, 0, none⟩)] 25 (0, 0)) :: R) → Calls Try.prog 26 #[.pointer (some ⟨p, 0, none⟩), .map (some v.m1)] w' fun e w'' => e = .returned (.bool (s.all s.ready)) ∧ Hs w0 w'' (CoV p v s :: Blk w.heap.size (.cells #[.pointer (some ⟨p, 0, none⟩)] 25 (0, 0)) :: R) := fun w' h => all26 p v s w' w0 _ h v.m1 s.ready (fun w' R' h x => CoV.look1 h x) hlen
    cases hal : s.all s.ready with
    | false =>
      rw [hal] at ha
      simp only [Bool.true_and, Bool.false_and]
      exact settled_B p _ v s w _ w0 R he rfl rfl H1 ha
    | true =>
      rw [hal] at ha
      simp only [Bool.true_and]
      cases hu : (s.under == 0) with
      | false =>
        simp only [Bool.false_and]
        exact settled_C p _ v s w _ w0 R he hu rfl rfl H1 ha
      | true =>
        simp only [Bool.true_and]
        cases hd : (s.durable == 0) with
        | true =>
          simp only [Bool.true_or]
          exact settled_D p _ v s w _ w0 R he hu hd rfl rfl H1 ha
        | false =>
          simp only [Bool.false_or]
          exact settled_E p _ v s w _ w0 R (s.sinks.all s.committed) he hu hd rfl rfl H1 ha (fun w' h => conf_set p w.heap.size v s v.vs s.sinks s.committed w' w0 _ h (fun w' h => CoV.sinks h) hlen2 (fun x w' h => set31 p v s w' w0 _ h w.heap.size x (h.at1.cellOf 0 rfl)))
end Go.Proofs.Ythjinahfhpgpmaa

import Derived.Test.YtlpcofjmleghdaaKn
import Derived.Test.YtlpcofjmleghdaaPn
import Derived.IntWalk
import Derived.StillTailTactics
import Derived.Test.YtlpcofjmleghdaaProg
import Derived.Test.YtlpcofjmleghdaaLs
import Derived.Outline
import Derived.StillTailTactics
import Derived.Deep.DeepCutAuto
import Derived.Deep.CutBlock
import Derived.Deep.LoopGhost
import Derived.Deep.QuietTactic
import Derived.BigQuiet
import Derived.Deep.RegionHeld3
import Derived.Deep.RegionLaw
set_option linter.unusedVariables false
set_option linter.unusedSimpArgs false
namespace Go.Proofs.Ytlpcofjmleghdaa
open Go.RowKit
set_option maxRecDepth 100000
theorem zero44 (w : World) : (zeroValue 53).run Try.prog w = .ok (.agg #[.int .i64 0, .int .i64 0]) w := by kernel_rfl
theorem info44 : (Try.prog.info? 53).map (fun i => (i.zero, i.size, i.bytes)) = some (some (.agg #[.int .i64 0, .int .i64 0]), 2, 16) := by kernel_rfl
/-- slices.Delete. -/
theorem delete44 (v : Value) (xs : List (Int × Int)) (i j : Int) (w w0 : World) (R : List HP) (H : Hs w0 w (Ls ((Enc.num .i64).pair (Enc.num .i64)) 53 v xs :: R)) (h0 : 0 ≤ i) (hij : i < j) (hj : j ≤ xs.length) (hb : xs.length * 16 ≤ 140737488355328) :
    Calls Try.prog 44 #[v, .int .i64 i, .int .i64 j] w fun e w' => ∃ A c m, m = xs.length - (j.toNat - i.toNat) ∧ e = .returned (.slice A m c) ∧ Hs w0 w' (Ls ((Enc.num .i64).pair (Enc.num .i64)) 53 (.slice A m c) (xs.take i.toNat ++ xs.drop j.toNat) :: R) := by
  obtain ⟨i, rfl⟩ := Int.eq_ofNat_of_zero_le h0
  obtain ⟨j, rfl⟩ := Int.eq_ofNat_of_zero_le (show 0 ≤ j by omega)
  simp only [Int.toNat_natCast]
  obtain ⟨A, c, rfl⟩ := H.ls_form
  obtain ⟨_, hn2, hn3⟩ := H.ls_rd.caps
  have hfin : Hid (flat ((Enc.num .i64).pair (Enc.num .i64)) (xs.take i) ++ flat ((Enc.num .i64).pair (Enc.num .i64)) (xs.drop j) = flat ((Enc.num .i64).pair (Enc.num .i64)) (xs.take i ++ xs.drop j) ∧ (xs.take i ++ xs.drop j).length = i + (xs.length - j)) := ⟨by rw [flat_append], by simp; omega⟩
  have hl1 : Hid ((xs.take i).length = i) := by show _ = _; rw [List.length_take]; omega
  have hl2 : Hid ((xs.drop j).length = xs.length - j) := by show _ = _; rw [List.length_drop]
  obtain ⟨A2, hA2, hcut⟩ := cut_drop Try.prog 75 53 2 Try.underlying75 (by kernel_rfl) A xs.length c j (by omega)
  have hr2 : Hid (Rd w.drew (.slice A2 (xs.length - j) (c - j)) (xs.length - j) (flat ((Enc.num .i64).pair (Enc.num .i64)) (xs.drop j))) := by
    have h := RdL.drop H.drew.ls_rd j (by omega)
    unfold RdL at h
    rw [hl2.out] at h
    have e := hA2.out
    exact e ▸ h
  have H2 := H.drew.ls_take i (by omega)
  unfold Ls at H2
  rw [hl1.out] at H2
  generalize hn : xs.length = n at *
  have hj0 : (0 : Int) ≤ (j : Int) := by omega
  have hic : (i : Int) ≤ (c : Int) := by omega
  have hjc : (j : Int) ≤ (c : Int) := by omega
  have hne : ((i : Int) == (j : Int)) = false := by rw [beq_eq_false_iff_ne]; omega
  have hlen : Hid ((flat ((Enc.num .i64).pair (Enc.num .i64)) (xs.drop j)).length = (n - j) * 2) := by show _ = _; rw [flat_length, List.length_drop, hn]; rfl
  have hone : Hid (∀ u ∈ flat ((Enc.num .i64).pair (Enc.num .i64)) (xs.drop j), u.oneCell' = true) := flat_oneCell _
  have hn := Lib.hid hn
  clear H
  go_enter Try.func44, Try.ntmps44
  go_wp2_with fail
  go_still_tail 6, mixed
  change wpList _ _ _ _ _ w.drew
  go_wp2_with (at_builtin; refine wpList_append_sl rfl (.tmp 22) (.tmp 25) 75 rfl 53 _ 2 16 Try.underlying75 info44 rfl (by decide) (by decide) rfl _ rfl H2 (n - j) (flat ((Enc.num .i64).pair (Enc.num .i64)) (xs.drop j)) hlen.out hr2.out hone.out (by omega) ?_)
  intro A' c' w1 H3 hin
  obtain ⟨rfl, rfl⟩ := hin (by omega)
  clear hcut hr2 H2 hlen hone hin
  generalize hm : i + (n - j) = m at *
  have hm1 : m ≤ n := by omega
  have hm := Lib.hid hm
  obtain ⟨A3, hA3, hcut3⟩ := cut_spare Try.prog 75 53 2 Try.underlying75 (by kernel_rfl) A' m c' n (by omega) (by omega)
  obtain ⟨w2, hclear, H4⟩ := run_clear_spare (P := Try.prog) H3 75 0 _ Try.underlying75 zero44 rfl (by intro u hu; simp [Value.cells] at hu; first | (subst hu; rfl) | (rcases hu with rfl | rfl <;> rfl) | (rcases hu with rfl | rfl | rfl <;> rfl) | (rcases hu with rfl | rfl | rfl | rfl <;> rfl)) (n - m) (by omega)
  rw [← hA3.out] at hclear
  go_wp2_with fail
  go_ret
  refine ⟨_, _, _, by have := hm.out; omega, rfl, ?_⟩
  unfold Ls
  rw [← hfin.out.1, hfin.out.2]
  exact H4
set_option maxRecDepth 100000 in
theorem len31 (p most : Nat) (xs : List (Int × Int)) (w w0 : World) (R : List HP) (H : Hs w0 w (Rg ((Enc.num .i64).pair (Enc.num .i64)) 53 77 p most xs :: R)) :
    Calls Try.prog 31 #[.pointer (some ⟨p, 0, none⟩)] w fun e w' => e = .returned (.int .i64 xs.length) ∧ w = w' := by
  obtain ⟨A, c, K⟩ := Rg.open_ H
  obtain ⟨n, hn⟩ : ∃ n, xs.length = n := ⟨_, rfl⟩
  rw [hn] at K ⊢
  have p0 : w.cell? ⟨p, 0, none⟩ = some (.slice A n c) := K.cellOf 0 rfl
  clear H K hn
  go_enter Try.func31, Try.ntmps31
  go_wp2_with fail
  go_ret
  exact ⟨rfl, rfl⟩
set_option maxRecDepth 100000 in
theorem room32 (p most : Nat) (xs : List (Int × Int)) (w w0 : World) (R : List HP) (H : Hs w0 w (Rg ((Enc.num .i64).pair (Enc.num .i64)) 53 77 p most xs :: R)) (hl : xs.length ≤ 1000000) (hmost : most ≤ 1000000) :
    Calls Try.prog 32 #[.pointer (some ⟨p, 0, none⟩)] w fun e w' => e = .returned (.int .i64 ((most - xs.length : Nat) : Int)) ∧ ∃ n, w' = w.drewN n := by
  obtain ⟨A, c, K⟩ := Rg.open_ H
  obtain ⟨n, hn⟩ : ∃ n, xs.length = n := ⟨_, rfl⟩
  rw [hn] at K hl ⊢
  have p0 : w.cell? ⟨p, 0, none⟩ = some (.slice A n c) := K.cellOf 0 rfl
  have p1 : w.cell? ⟨p, 1, none⟩ = some (.int .i64 most) := K.cellOf 1 rfl
  obtain ⟨d, hd⟩ : ∃ d : Int, (most : Int) - (n : Int) = d := ⟨_, rfl⟩
  have hw : IntKind.i64.wrap ((most : Int) - (n : Int)) = d := by rw [IntWalk.i64_in _ (by omega)]; exact hd
  clear H K hn
  rcases (by omega : d < 0 ∨ d = 0 ∨ 0 < d) with h | h | h
  · have e0 : ((most - n : Nat) : Int) = 0 := by omega
    rw [e0]
    have e1 : max d 0 = 0 := by omega
    have e2 : decide (d < 0) = true := decide_eq_true h
    have e3 : decide (0 < d) = false := by rw [decide_eq_false_iff_not]; omega
    have e4 : decide (d ≤ 0) = true := by rw [decide_eq_true_eq]; omega
    have f1 : ¬ (0 ≤ d) := by omega
    clear h hd e0 hl hmost
    go_enter Try.func32, Try.ntmps32
    go_wp2_with fail
    go_quiet (fail)
    go_wp2_with fail
    go_ret
    exact ⟨rfl, _, rfl⟩
  · have e0 : ((most - n : Nat) : Int) = 0 := by omega
    rw [e0]
    subst h
    clear hd e0 hl hmost
    go_enter Try.func32, Try.ntmps32
    go_wp2_with fail
    go_quiet (fail)
    go_wp2_with fail
    go_ret
    exact ⟨rfl, _, rfl⟩
  · have e0 : ((most - n : Nat) : Int) = d := by omega
    rw [e0]
    have e1 : max d 0 = d := by omega
    have e2 : decide (d < 0) = false := by rw [decide_eq_false_iff_not]; omega
    have e3 : decide (0 < d) = true := decide_eq_true h
    have e4 : decide (d ≤ 0) = false := by rw [decide_eq_false_iff_not]; omega
    have f1 : 0 ≤ d := by omega
    clear hd e0 hl hmost
    go_enter Try.func32, Try.ntmps32
    go_wp2_with fail
    go_quiet (fail)
    go_wp2_with fail
    go_ret
    exact ⟨rfl, _, rfl⟩
theorem infoR2 : (Try.prog.info? 53).map (fun i => (i.zero, i.size, i.bytes)) = some (some (.agg #[.int .i64 0, .int .i64 0]), 2, 16) := by kernel_rfl
def ng (x : Int) : Int := IntKind.i64.wrap (-x)
set_option maxRecDepth 100000 in
set_option maxHeartbeats 1000000 in
theorem pair30 (x : Int) (w w0 : World) (R : List HP) (H : Hs w0 w R) : Calls Try.prog 30 #[.int .i64 x] w fun e w' => e = .returned (.agg #[.int .i64 x, .int .i64 (ng x)]) ∧ Hs w0 w' R := by
  have K := Lib.hid (H.alloc (.cells #[.int .i64 0, .int .i64 0] 53))
  obtain ⟨y, hy⟩ : ∃ y, ng x = y := ⟨_, rfl⟩
  rw [hy]
  unfold ng at hy
  clear H
  go_enter Try.func30, Try.ntmps30
  go_upto_region 1 with (fail)
  generalize World.alloc _ _ = w1 at K ⊢
  generalize w.heap.size = q at K ⊢
  have b0_ : w1.cell? ⟨q, 0, none⟩ = some (.int .i64 0) := K.out.cellOf 0 rfl
  have b1_ : w1.cell? ⟨q, 1, none⟩ = some (.int .i64 0) := K.out.cellOf 1 rfl
  have g0_ := K.out.frozenOf 0
  have g1_ := K.out.frozenOf 1
  go_wp2_with fail
  have K9 := ((K.out.setCell (i := 0) (.int .i64 x)).setCell (i := 1) (.int .i64 y))
  generalize World.setCell _ _ _ = w9 at K9 ⊢
  simp only [List.setIfInBounds_toArray, List.set_cons_zero, List.set_cons_succ] at K9
  have r0_ : w9.cell? ⟨q, 0, none⟩ = some (.int .i64 x) := K9.cellOf 0 rfl
  have r1_ : w9.cell? ⟨q, 1, none⟩ = some (.int .i64 y) := K9.cellOf 1 rfl
  refine bodyPost_ret (v := .agg #[.int .i64 x, .int .i64 y]) ?_ rfl ⟨rfl, K9.tail⟩
  simp [results, Try.results30, go_sem, r0_, r1_]
set_option maxRecDepth 100000 in
set_option maxHeartbeats 1000000 in
theorem peekIn43 (p most : Nat) (xs : List (Int × Int)) (i : Nat) (x y : Int) (hx : xs[i]? = some (x, y)) (w w0 : World) (R : List HP) (H : Hs w0 w (Rg ((Enc.num .i64).pair (Enc.num .i64)) 53 77 p most xs :: R)) :
    Calls Try.prog 43 #[.pointer (some ⟨p, 0, none⟩), .int .i64 i] w fun e w' => e = .returned (.tuple #[.agg #[.int .i64 x, .int .i64 y], .bool true]) ∧ Hs w0 w' (Rg ((Enc.num .i64).pair (Enc.num .i64)) 53 77 p most xs :: R) := by
  obtain ⟨A, c, K0⟩ := Rg.open_ H
  have hi := (List.getElem?_eq_some_iff.1 hx).1
  have hcp := K0.at1.ls_rd.caps
  obtain ⟨g, off, rfl⟩ := K0.at1.ls_rd.some_ (by omega)
  obtain ⟨n, hn⟩ : ∃ n, xs.length = n := ⟨_, rfl⟩
  have K := K0.alloc (.cells #[.int .i64 0, .int .i64 0] 53)
  have s0 : (w.alloc (.cells #[.int .i64 0, .int .i64 0] 53)).cell? ⟨g, off + i * 2 + 0, none⟩ = some (.int .i64 x) := K.at2.ls_rd.cell hx 0 rfl
  have s1 : (w.alloc (.cells #[.int .i64 0, .int .i64 0] 53)).cell? ⟨g, off + i * 2 + 1, none⟩ = some (.int .i64 y) := K.at2.ls_rd.cell hx 1 rfl
  rw [Nat.add_zero] at s0
  rw [hn] at K hi hcp
  replace K := Lib.hid K
  replace hn := Lib.hid hn
  have hi0 : (0 : Int) ≤ (i : Int) := by omega
  have hi1 : (i : Int) < (n : Int) := by omega
  have e0 : decide ((i : Int) < 0) = false := by rw [decide_eq_false_iff_not]; omega
  have e1 : decide ((n : Int) ≤ (i : Int)) = false := by rw [decide_eq_false_iff_not]; omega
  have e2 : decide (n ≤ i) = false := by rw [decide_eq_false_iff_not]; omega
  clear H K0 hx hcp
  go_enter Try.func43, Try.ntmps43
  go_upto_region 1 with (fail)
  generalize World.alloc _ _ = w1 at K s0 s1 ⊢
  generalize w.heap.size = q at K ⊢
  have p0 : w1.cell? ⟨p, 0, none⟩ = some (.slice (some ⟨g, off, none⟩) n c) := K.out.at1.cellOf 0 rfl
  have b0_ : w1.cell? ⟨q, 0, none⟩ = some (.int .i64 0) := K.out.cellOf 0 rfl
  have b1_ : w1.cell? ⟨q, 1, none⟩ = some (.int .i64 0) := K.out.cellOf 1 rfl
  have f0_ := K.out.frozenOf 0
  have f1_ := K.out.frozenOf 1
  go_wp2_with fail
  have K9 := ((K.out.setCell (i := 0) (.int .i64 x)).setCell (i := 1) (.int .i64 y))
  generalize World.setCell _ _ _ = w9 at K9 ⊢
  simp only [List.setIfInBounds_toArray, List.set_cons_zero, List.set_cons_succ] at K9
  have r0_ : w9.cell? ⟨q, 0, none⟩ = some (.int .i64 x) := K9.cellOf 0 rfl
  have r1_ : w9.cell? ⟨q, 1, none⟩ = some (.int .i64 y) := K9.cellOf 1 rfl
  refine bodyPost_ret (v := .tuple #[.agg #[.int .i64 x, .int .i64 y], .bool true]) ?_ rfl ⟨rfl, Rg.close hn.out.symm K9.tail⟩
  simp [results, Try.results43, go_sem, r0_, r1_]
set_option maxRecDepth 100000 in
set_option maxHeartbeats 1000000 in
theorem peekOut43 (p most : Nat) (w w0 : World) (R : List HP) (H : Hs w0 w (Rg ((Enc.num .i64).pair (Enc.num .i64)) 53 77 p most [] :: R)) :
    Calls Try.prog 43 #[.pointer (some ⟨p, 0, none⟩), .int .i64 0] w fun e w' => e = .returned (.tuple #[.agg #[.int .i64 0, .int .i64 0], .bool false]) ∧ Hs w0 w' (Rg ((Enc.num .i64).pair (Enc.num .i64)) 53 77 p most [] :: R) := by
  obtain ⟨A, c, K0⟩ := Rg.open_ H
  have K := Lib.hid (K0.alloc (.cells #[.int .i64 0, .int .i64 0] 53))
  clear H K0
  go_enter Try.func43, Try.ntmps43
  go_upto_region 1 with (fail)
  generalize World.alloc _ _ = w1 at K ⊢
  generalize w.heap.size = q at K ⊢
  have p0 : w1.cell? ⟨p, 0, none⟩ = some (.slice A 0 c) := K.out.at1.cellOf 0 rfl
  have K2 := Lib.hid ((K.out.alloc (.cells #[.int .i64 0, .int .i64 0] 53)).at1)
  go_upto_region 3 with (fail)
  clear p0 K
  generalize World.alloc w1 _ = w2 at K2 ⊢
  generalize w1.heap.size = z at K2 ⊢
  have b0_ : w2.cell? ⟨q, 0, none⟩ = some (.int .i64 0) := K2.out.cellOf 0 rfl
  have b1_ : w2.cell? ⟨q, 1, none⟩ = some (.int .i64 0) := K2.out.cellOf 1 rfl
  have f0_ := K2.out.frozenOf 0
  have f1_ := K2.out.frozenOf 1
  have d0_ : w2.cell? ⟨z, 0, none⟩ = some (.int .i64 0) := K2.out.at1.cellOf 0 rfl
  have d1_ : w2.cell? ⟨z, 1, none⟩ = some (.int .i64 0) := K2.out.at1.cellOf 1 rfl
  go_wp2_with fail
  have K9 := ((K2.out.setCell (i := 0) (.int .i64 0)).setCell (i := 1) (.int .i64 0))
  generalize World.setCell _ _ _ = w9 at K9 ⊢
  simp only [List.setIfInBounds_toArray, List.set_cons_zero, List.set_cons_succ] at K9
  have r0_ : w9.cell? ⟨q, 0, none⟩ = some (.int .i64 0) := K9.cellOf 0 rfl
  have r1_ : w9.cell? ⟨q, 1, none⟩ = some (.int .i64 0) := K9.cellOf 1 rfl
  refine bodyPost_ret (v := .tuple #[.agg #[.int .i64 0, .int .i64 0], .bool false]) ?_ rfl ⟨rfl, Rg.close rfl K9.tail.tail⟩
  simp [results, Try.results43, go_sem, r0_, r1_]
set_option maxRecDepth 100000 in
set_option maxHeartbeats 1000000 in
theorem takeN33 (p most : Nat) (w w0 : World) (R : List HP) (H : Hs w0 w (Rg ((Enc.num .i64).pair (Enc.num .i64)) 53 77 p most [] :: R)) :
    Calls Try.prog 33 #[.pointer (some ⟨p, 0, none⟩)] w fun e w' => e = .returned (.tuple #[.agg #[.int .i64 0, .int .i64 0], .bool false]) ∧ Hs w0 w' (Rg ((Enc.num .i64).pair (Enc.num .i64)) 53 77 p most [] :: R) := by
  have K := Lib.hid (H.alloc (.cells #[.int .i64 0, .int .i64 0] 53))
  clear H
  go_enter Try.func33, Try.ntmps33
  go_upto_region 1 with (fail)
  generalize World.alloc _ _ = w1 at K ⊢
  generalize w.heap.size = q at K ⊢
  go_wp2_with fail
  refine (peekOut43 p most w1 w0 _ K.out.at1).mono ?_
  rintro e w2 ⟨rfl, K2⟩
  have K3 := Lib.hid ((K2.alloc (.cells #[.int .i64 0, .int .i64 0] 53)).at2)
  clear K K2
  go_upto_region 4 with (fail)
  generalize World.alloc w2 _ = w3 at K3 ⊢
  generalize w2.heap.size = z at K3 ⊢
  have b0_ : w3.cell? ⟨q, 0, none⟩ = some (.int .i64 0) := K3.out.cellOf 0 rfl
  have b1_ : w3.cell? ⟨q, 1, none⟩ = some (.int .i64 0) := K3.out.cellOf 1 rfl
  have f0_ := K3.out.frozenOf 0
  have f1_ := K3.out.frozenOf 1
  have d0_ : w3.cell? ⟨z, 0, none⟩ = some (.int .i64 0) := K3.out.at1.cellOf 0 rfl
  have d1_ : w3.cell? ⟨z, 1, none⟩ = some (.int .i64 0) := K3.out.at1.cellOf 1 rfl
  go_wp2_with fail
  have K9 := ((K3.out.setCell (i := 0) (.int .i64 0)).setCell (i := 1) (.int .i64 0))
  generalize World.setCell _ _ _ = w9 at K9 ⊢
  simp only [List.setIfInBounds_toArray, List.set_cons_zero, List.set_cons_succ] at K9
  have r0_ : w9.cell? ⟨q, 0, none⟩ = some (.int .i64 0) := K9.cellOf 0 rfl
  have r1_ : w9.cell? ⟨q, 1, none⟩ = some (.int .i64 0) := K9.cellOf 1 rfl
  refine bodyPost_ret (v := .tuple #[.agg #[.int .i64 0, .int .i64 0], .bool false]) ?_ rfl ⟨rfl, K9.tail.tail⟩
  simp [results, Try.results33, go_sem, r0_, r1_]
set_option maxRecDepth 100000 in
set_option maxHeartbeats 1000000 in
theorem takeC33 (p most : Nat) (x y : Int) (xs : List (Int × Int)) (w w0 : World) (R : List HP) (H : Hs w0 w (Rg ((Enc.num .i64).pair (Enc.num .i64)) 53 77 p most ((x, y) :: xs) :: R)) (hl : xs.length ≤ 1000000) :
    Calls Try.prog 33 #[.pointer (some ⟨p, 0, none⟩)] w fun e w' => e = .returned (.tuple #[.agg #[.int .i64 x, .int .i64 y], .bool true]) ∧ Hs w0 w' (Rg ((Enc.num .i64).pair (Enc.num .i64)) 53 77 p most xs :: R) := by
  have K := Lib.hid (H.alloc (.cells #[.int .i64 0, .int .i64 0] 53))
  clear H
  go_enter Try.func33, Try.ntmps33
  go_upto_region 1 with (fail)
  generalize World.alloc _ _ = w1 at K ⊢
  generalize w.heap.size = q at K ⊢
  go_wp2_with fail
  refine (peekIn43 p most ((x, y) :: xs) 0 x y rfl w1 w0 _ K.out.at1).mono ?_
  rintro e w2 ⟨rfl, K2⟩
  have K3 := (K2.alloc (.cells #[.int .i64 x, .int .i64 y] 53)).at1
  clear K K2
  obtain ⟨A, c, K4⟩ := Rg.open_ K3
  clear K3
  go_upto_region 3 with (fail)
  generalize World.alloc w2 _ = w3 at K4 ⊢
  generalize w2.heap.size = z at K4 ⊢
  have TD := Lib.hid (delete44 (.slice A ((x, y) :: xs).length c) ((x, y) :: xs) 0 1 w3 w0 _ K4.at1 (by omega) (by omega) (by rw [List.length_cons]; omega) (by rw [List.length_cons]; omega))
  obtain ⟨n, hn⟩ : ∃ n, xs.length = n := ⟨_, rfl⟩
  rw [List.length_cons, hn] at K4 TD
  have p0 : w3.cell? ⟨p, 0, none⟩ = some (.slice A (n + 1) c) := K4.cellOf 0 rfl
  replace hn := Lib.hid hn
  clear K4
  go_wp2_with fail
  refine TD.out.mono ?_
  rintro e w6 ⟨A6, c6, m6, hm6, rfl, K6⟩
  obtain rfl : m6 = n := by rw [hm6]; rfl
  have K6 : Hs w0 w6 (Ls ((Enc.num .i64).pair (Enc.num .i64)) 53 (.slice A6 m6 c6) xs :: Blk p (.cells #[.slice A (m6 + 1) c, .int .i64 most] 77) :: Blk z (.cells #[.int .i64 x, .int .i64 y] 53) :: Blk q (.cells #[.int .i64 0, .int .i64 0] 53) :: R) := K6
  have h0 := K6.at1.frozenOf 0
  have h1 : w6.cell? ⟨p, 0, none⟩ = some (.slice A (m6 + 1) c) := K6.at1.cellOf 0 rfl
  have K7 := Lib.hid ((K6.at1.setCell (i := 0) (.slice A6 m6 c6)).at3)
  simp only [List.setIfInBounds_toArray, List.set_cons_zero, List.set_cons_succ] at K7
  clear p0 K6 TD hm6
  go_upto_region 4 with (fail)
  clear h0 h1
  generalize World.setCell _ _ _ = w7 at K7 ⊢
  have b0_ : w7.cell? ⟨q, 0, none⟩ = some (.int .i64 0) := K7.out.cellOf 0 rfl
  have b1_ : w7.cell? ⟨q, 1, none⟩ = some (.int .i64 0) := K7.out.cellOf 1 rfl
  have f0_ := K7.out.frozenOf 0
  have f1_ := K7.out.frozenOf 1
  have d0_ : w7.cell? ⟨z, 0, none⟩ = some (.int .i64 x) := K7.out.at3.cellOf 0 rfl
  have d1_ : w7.cell? ⟨z, 1, none⟩ = some (.int .i64 y) := K7.out.at3.cellOf 1 rfl
  go_wp2_with fail
  have K9 := ((K7.out.setCell (i := 0) (.int .i64 x)).setCell (i := 1) (.int .i64 y))
  generalize World.setCell _ _ _ = w9 at K9 ⊢
  simp only [List.setIfInBounds_toArray, List.set_cons_zero, List.set_cons_succ] at K9
  have r0_ : w9.cell? ⟨q, 0, none⟩ = some (.int .i64 x) := K9.cellOf 0 rfl
  have r1_ : w9.cell? ⟨q, 1, none⟩ = some (.int .i64 y) := K9.cellOf 1 rfl
  refine bodyPost_ret (v := .tuple #[.agg #[.int .i64 x, .int .i64 y], .bool true]) ?_ rfl ⟨rfl, Rg.close hn.out.symm (K9.tail.at2.tail.at1.at1)⟩
  simp [results, Try.results33, go_sem, r0_, r1_]
def mp (x : Int) : Int × Int := (x, ng x)
set_option maxRecDepth 100000 in
set_option maxHeartbeats 1000000 in
theorem map29 (p most : Nat) (xs : List Int) (w w0 : World) (R : List HP) (H : Hs w0 w (Rg (Enc.num .i64) 3 71 p most xs :: R)) (hl : xs.length ≤ 1000000) :
    Calls Try.prog 29 #[.pointer (some ⟨p, 0, none⟩), .func (.func 30) #[] #[]] w fun e w' => ∃ q, e = .returned (.pointer (some ⟨q, 0, none⟩)) ∧ Hs w0 w' (Rg ((Enc.num .i64).pair (Enc.num .i64)) 53 77 q most (xs.map mp) :: Rg (Enc.num .i64) 3 71 p most xs :: R) := by
  obtain ⟨A, c, K0⟩ := Rg.open_ H
  have hcp := K0.at1.ls_rd.caps.2
  obtain ⟨N, hN⟩ : ∃ n, xs.length = n := ⟨_, rfl⟩
  rw [hN] at K0 hl hcp
  have p0 : w.cell? ⟨p, 0, none⟩ = some (.slice A N c) := K0.cellOf 0 rfl
  have p1 : w.cell? ⟨p, 1, none⟩ = some (.int .i64 most) := K0.cellOf 1 rfl
  have K := Lib.hid ((K0.alloc (.cells #[.slice none 0 0, .int .i64 most] 77)).ls_nil ((Enc.num .i64).pair (Enc.num .i64)) 53)
  replace hN := Lib.hid hN
  clear H K0
  go_enter Try.func29, Try.ntmps29
  go_upto_region 2 with (fail)
  clear p0 p1
  generalize World.alloc _ _ = w1 at K ⊢
  generalize w.heap.size = q at K ⊢
  have p0 : w1.cell? ⟨p, 0, none⟩ = some (.slice A N c) := K.out.at2.cellOf 0 rfl
  go_wp2_with fail
  clear p0
  go_loopg [19] N (fun g iv wr => ∃ (i : Nat) (B : Option Addr) (d : Nat) (ys : List (Int × Int)), g + i = N ∧ iv = .int .i64 i ∧ Hid (ys = (xs.take i).map mp) ∧ Hid (ys.length = i) ∧ Hid (Hs w0 wr (Ls ((Enc.num .i64).pair (Enc.num .i64)) 53 (.slice B i d) ys :: Blk q (.cells #[.slice B i d, .int .i64 most] 77) :: Blk p (.cells #[.slice A N c, .int .i64 most] 71) :: Ls (Enc.num .i64) 3 (.slice A N c) xs :: R)))
  case atStart => exact ⟨0, none, 0, [], rfl, rfl, Lib.hid rfl, Lib.hid rfl, K⟩
  case round =>
    clear K
    obtain ⟨i, B, d, ys, hg, rfl, hys, hyl, K⟩ := hrel
    have hiN : i ≤ N := by omega
    replace hg := Lib.hid hg
    rcases Nat.lt_or_ge i N with hlt | hlt
    · have hi0 : (0 : Int) ≤ (i : Int) := by omega
      have hi1 : (i : Int) < (N : Int) := by omega
      have hwi : IntKind.i64.wrap ((i : Int) + 1) = ((i + 1 : Nat) : Int) := by rw [IntWalk.i64_in _ (by omega)]; omega
      obtain ⟨x, hx⟩ : ∃ x, xs[i]? = some x := ⟨_, List.getElem?_eq_getElem (by have := hN.out; omega)⟩
      obtain ⟨g, off, rfl⟩ := K.out.at3.ls_rd.some_ (by have := hN.out; omega)
      have s0 : wr.cell? ⟨g, off + i, none⟩ = some (.int .i64 x) := by have := K.out.at3.ls_rd.cell hx 0 rfl; simpa [Enc.num] using this
      have hst : Hid (ys ++ [(x, ng x)] = (xs.take (i + 1)).map mp) := by show _ = _; rw [hys.out, List.take_add_one, hx, List.map_append]; rfl
      have TC := Lib.hid (fun w R (H : Hs w0 w R) => pair30 x w w0 R H)
      obtain ⟨y, hy⟩ : ∃ y, ng x = y := ⟨_, rfl⟩
      rw [hy] at TC hst
      clear hx hy hys
      have KQ := Lib.hid K.out
      have SS : Hid (∀ X w', Hs w0 w' (X :: Blk q (.cells #[.slice B i d, .int .i64 most] 77) :: Blk p (.cells #[.slice (some ⟨g, off, none⟩) N c, .int .i64 most] 71) :: Ls (Enc.num .i64) 3 (.slice (some ⟨g, off, none⟩) N c) xs :: R) → w'.cell? ⟨q, 0, none⟩ = some (.slice B i d)) := fun X w' h => h.at1.cellOf 0 rfl
      go_upto_region 5 with (fail)
      clear s0 K
      refine wp_region_left (S := fun w' : World => w'.cell? ⟨q, 0, none⟩ = some (.slice B i d)) 12 mixed ?_
      have hS : (fun w' : World => w'.cell? ⟨q, 0, none⟩ = some (.slice B i d)) wr.drew := by exact SS.out _ _ KQ.out.drew
      refine Left.pure (i := 0) (v := ?v5_0) rfl (by kernel_rfl) (fun _ _ _ h => h) (Or.inr hS) (Or.inl ⟨by kernel_rfl, fun w _ => ?hy5_0⟩) ?rest5_0
      case hy5_0 => (go_simp; try with_reducible rfl)
      try simp only [Act.put, List.setIfInBounds_toArray, List.set_cons_zero, List.set_cons_succ]
      refine Left.pure (i := 1) (v := ?v5_1) rfl (by kernel_rfl) (fun _ _ _ h => h) (Or.inr hS) (Or.inl ⟨by kernel_rfl, fun w _ => ?hy5_1⟩) ?rest5_1
      case hy5_1 => (go_simp; try with_reducible rfl)
      try simp only [Act.put, List.setIfInBounds_toArray, List.set_cons_zero, List.set_cons_succ]
      refine Left.pure (i := 2) (v := ?v5_2) rfl (by kernel_rfl) (fun _ _ _ h => h) (Or.inr hS) (Or.inl ⟨by kernel_rfl, fun w _ => ?hy5_2⟩) ?rest5_2
      case hy5_2 => (go_simp; try with_reducible rfl)
      try simp only [Act.put, List.setIfInBounds_toArray, List.set_cons_zero, List.set_cons_succ]
      refine Left.pure (i := 3) (v := ?v5_3) rfl (by kernel_rfl) (fun _ _ _ h => h) (Or.inr hS) (Or.inl ⟨by kernel_rfl, fun w _ => ?hy5_3⟩) ?rest5_3
      case hy5_3 => (go_simp; try with_reducible rfl)
      try simp only [Act.put, List.setIfInBounds_toArray, List.set_cons_zero, List.set_cons_succ]
      refine Left.take (i := 4) (v := ?v5_4) rfl (by kernel_rfl) (fun _ _ _ h => h) hS (Or.inl ⟨by kernel_rfl, fun w hSw => ?hy5_4⟩) ?rest5_4
      case hy5_4 => ((try dsimp only at hSw); go_simp; try with_reducible rfl)
      try simp only [Act.put, List.setIfInBounds_toArray, List.set_cons_zero, List.set_cons_succ]
      refine Left.pure (i := 5) (v := ?v5_5) rfl (by kernel_rfl) (fun _ _ _ h => h) (Or.inr hS) (Or.inl ⟨by kernel_rfl, fun w _ => ?hy5_5⟩) ?rest5_5
      case hy5_5 => (go_simp; try with_reducible rfl)
      try simp only [Act.put, List.setIfInBounds_toArray, List.set_cons_zero, List.set_cons_succ]
      refine Left.pure (i := 6) (v := ?v5_6) rfl (by kernel_rfl) (fun _ _ _ h => h) (Or.inr hS) (Or.inl ⟨by kernel_rfl, fun w _ => ?hy5_6⟩) ?rest5_6
      case hy5_6 => (go_simp; try with_reducible rfl)
      try simp only [Act.put, List.setIfInBounds_toArray, List.set_cons_zero, List.set_cons_succ]
      refine Left.run (i := 7) rfl (by kernel_rfl) (fun K hK => ?_)
      go_simp
      go_at_call 30
      refine (TC.out _ _ KQ.out.drew).mono ?_
      rintro e w5 ⟨rfl, K5⟩
      replace K5 := Lib.hid K5
      go_simp
      replace hS : (fun w' : World => w'.cell? ⟨q, 0, none⟩ = some (.slice B i d)) w5 := by exact SS.out _ _ K5.out
      refine hK.out _ _ (Or.inr hS) ?_
      clear hK K
      try simp only [Act.put, List.setIfInBounds_toArray, List.set_cons_zero, List.set_cons_succ]
      refine Left.run (i := 8) rfl (by kernel_rfl) (fun K hK => ?_)
      go_simp
      replace hS : (fun w' : World => w'.cell? ⟨q, 0, none⟩ = some (.slice B i d)) (w5.alloc (.cells #[.int .i64 x, .int .i64 y] 53)) := by exact SS.out _ _ (K5.out.alloc_ _)
      refine hK.out _ _ (Or.inr hS) ?_
      clear hK K
      try simp only [Act.put, List.setIfInBounds_toArray, List.set_cons_zero, List.set_cons_succ]
      refine Left.run (i := 9) rfl (by kernel_rfl) (fun K hK => ?_)
      refine step_append_box (E := (Enc.num .i64).pair (Enc.num .i64)) (v := .slice B i d) (by rfl) (.tmp 27) (.tmp 31) 75 (by rfl) 53 _ 2 16 Try.underlying75 infoR2 rfl (by decide) (by decide) rfl (by rfl) (by rfl) (K5.out.alloc_ _) (x, y) (by exact RdL.boxAt _ (by simp)) (by rw [hyl.out]; omega) ?_
      intro A6 c6 w6 K6
      rw [hyl.out] at K6
      rw [hyl.out]
      replace hS : (fun w' : World => w'.cell? ⟨q, 0, none⟩ = some (.slice B i d)) w6 := by exact SS.out _ _ K6
      refine hK.out _ _ (Or.inr hS) ?_
      clear hK K
      try simp only [Act.put, List.setIfInBounds_toArray, List.set_cons_zero, List.set_cons_succ]
      refine Left.pure (i := 10) (v := ?v5_10) rfl (by kernel_rfl) (fun _ _ _ h => h) (Or.inr hS) (Or.inl ⟨by kernel_rfl, fun w _ => ?hy5_10⟩) ?rest5_10
      case hy5_10 => (go_simp; try with_reducible rfl)
      try simp only [Act.put, List.setIfInBounds_toArray, List.set_cons_zero, List.set_cons_succ]
      refine Left.pure (i := 11) (v := ?v5_11) rfl (by kernel_rfl) (fun _ _ _ h => h) (Or.inr hS) (Or.inl ⟨by kernel_rfl, fun w _ => ?hy5_11⟩) ?rest5_11
      case hy5_11 => (go_simp; try with_reducible rfl)
      try simp only [Act.put, List.setIfInBounds_toArray, List.set_cons_zero, List.set_cons_succ]
      refine Left.run (i := 12) rfl (by kernel_rfl) (fun K hK => ?_)
      have f2 := K6.at1.frozenOf 0
      have d2 := K6.at1.cellOf 0 rfl
      go_simp
      refine hK.out _ _ (Or.inl (by kernel_rfl)) ?_
      clear hK K
      try simp only [Act.put, List.setIfInBounds_toArray, List.set_cons_zero, List.set_cons_succ]
      refine Left.done (by kernel_rfl) ?_ _
      have K7 := Lib.hid ((K6.at1.setCell (i := 0) (.slice A6 (i + 1) c6)).at1)
      simp only [List.setIfInBounds_toArray, List.set_cons_zero, List.set_cons_succ] at K7
      rw [hst.out] at K7
      clear KQ SS f2 d2 K6 K5 TC
      generalize World.setCell _ _ _ = w7 at K7 ⊢
      go_wp2_with fail
      go_roundg (N - (i + 1))
      case measure => have := hg.out; omega
      case rel => exact ⟨i + 1, A6, c6, _, by have := hg.out; omega, by go_num, Lib.hid rfl, Lib.hid (by rw [List.length_map, List.length_take]; have := hN.out; omega), K7⟩
    · have hi1 : decide ((i : Int) < (N : Int)) = false := by rw [decide_eq_false_iff_not]; omega
      have hi2 : decide (i < N) = false := by rw [decide_eq_false_iff_not]; omega
      obtain rfl : i = N := by omega
      have hfin : ys = xs.map mp := by rw [hys.out, List.take_of_length_le (by have := hN.out; omega)]
      rw [hfin] at K
      clear hlt hfin
      go_wp2_with fail
      go_ret
      exact ⟨q, rfl, Rg.close (by rw [List.length_map, hN.out]) (Rg.close hN.out.symm (K.out.at3.at3)).at1.at2⟩
end Go.Proofs.Ytlpcofjmleghdaa

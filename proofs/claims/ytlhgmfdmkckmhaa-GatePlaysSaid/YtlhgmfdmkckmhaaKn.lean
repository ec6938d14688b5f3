import Derived.Test.YtlhgmfdmkckmhaaPg
import Derived.Test.YtlhgmfdmkckmhaaProg
import Derived.Test.YtlhgmfdmkckmhaaLs
import Derived.Outline
import Derived.StillTailTactics
import Derived.Deep.DeepCutAuto
import Derived.Deep.CutBlock
import Derived.Deep.LoopGhost
import Derived.Deep.QuietTactic
import Derived.BigQuiet
import Derived.Deep.RegionHeld3
import Derived.Deep.RegionLaw
set_option linter.unusedVariables false
set_option linter.unusedSimpArgs false
namespace Go.Proofs.Ytlhgmfdmkckmhaa
open Go.RowKit
/-- leathelp.Place. -/
theorem place9 (n m : Int) (w : World) (hm : 0 < m) (hm2 : m ≤ 1000000) : Calls Try.prog 9 #[.int .i64 n, .int .i64 m] w fun e w' => e = .returned (.int .i64 (n % m)) ∧ w = w' := by
  have h1 := Int.tmod_lt_of_pos n hm
  have h2 := Int.lt_tmod_of_pos n hm
  have hz : m ≠ 0 := by omega
  have hz0 : (m == 0) = false := by rw [beq_eq_false_iff_ne]; exact hz
  rcases Int.lt_or_le (n.tmod m) 0 with h | h
  · have e1 := Lib.hid (tmod_up n m hm h)
    go_enter Try.func9, Try.ntmps9
    go_wp2_with fail
    go_ret
    rw [← e1.out]
    exact ⟨rfl, rfl⟩
  · have e1 := Lib.hid (tmod_in n m hm h)
    go_enter Try.func9, Try.ntmps9
    go_wp2_with fail
    go_ret
    rw [← e1.out]
    exact ⟨rfl, rfl⟩
def recF (n : Int) : Fr := (1, (0, 0, n), 0, 0, false)
def barF (n : Int) (o : Bool) : Fr := (3, (0, 0, 0), 0, n, o)
theorem rec10 (n : Int) (w w0 : World) (R : List HP) (H : Hs w0 w R) : Calls Try.prog 10 #[.int .i64 n] w fun e w' => e = .returned (frv (recF n)) ∧ Hs w0 w' R := by
  have K := Lib.hid (H.alloc (.cells #[.int .i64 0, .int .i64 0, .int .i64 0, .int .i64 0, .int .i64 0, .int .u64 0, .bool false] 31))
  clear H
  go_enter Try.func10, Try.ntmps10
  go_upto_region 1 with (fail)
  generalize World.alloc _ _ = w1 at K ⊢
  generalize w.heap.size = br at K ⊢
  have L := K.out
  clear K
  have b0 : w1.cell? ⟨br, 0, none⟩ = some (.int .i64 0) := L.cellOf 0 rfl
  have b1 : w1.cell? ⟨br, 1, none⟩ = some (.int .i64 0) := L.cellOf 1 rfl
  have b2 : w1.cell? ⟨br, 2, none⟩ = some (.int .i64 0) := L.cellOf 2 rfl
  have b3 : w1.cell? ⟨br, 3, none⟩ = some (.int .i64 0) := L.cellOf 3 rfl
  have b4 : w1.cell? ⟨br, 4, none⟩ = some (.int .i64 0) := L.cellOf 4 rfl
  have b5 : w1.cell? ⟨br, 5, none⟩ = some (.int .u64 0) := L.cellOf 5 rfl
  have b6 : w1.cell? ⟨br, 6, none⟩ = some (.bool false) := L.cellOf 6 rfl
  have g0 := L.frozenOf 0
  have g1 := L.frozenOf 1
  have g2 := L.frozenOf 2
  have g3 := L.frozenOf 3
  have g4 := L.frozenOf 4
  have g5 := L.frozenOf 5
  have g6 := L.frozenOf 6
  have K9 := (((((((L.setCell (i := 0) (.int .i64 1)).setCell (i := 1) (.int .i64 0)).setCell (i := 2) (.int .i64 0)).setCell (i := 3) (.int .i64 n)).setCell (i := 4) (.int .i64 0)).setCell (i := 5) (.int .u64 0)).setCell (i := 6) (.bool false))
  clear L
  go_wp2_with fail
  generalize World.setCell _ _ _ = w9 at K9 ⊢
  simp only [List.setIfInBounds_toArray, List.set_cons_zero, List.set_cons_succ] at K9
  have r0 : w9.cell? ⟨br, 0, none⟩ = some (.int .i64 1) := K9.cellOf 0 rfl
  have r1 : w9.cell? ⟨br, 1, none⟩ = some (.int .i64 0) := K9.cellOf 1 rfl
  have r2 : w9.cell? ⟨br, 2, none⟩ = some (.int .i64 0) := K9.cellOf 2 rfl
  have r3 : w9.cell? ⟨br, 3, none⟩ = some (.int .i64 n) := K9.cellOf 3 rfl
  have r4 : w9.cell? ⟨br, 4, none⟩ = some (.int .i64 0) := K9.cellOf 4 rfl
  have r5 : w9.cell? ⟨br, 5, none⟩ = some (.int .u64 0) := K9.cellOf 5 rfl
  have r6 : w9.cell? ⟨br, 6, none⟩ = some (.bool false) := K9.cellOf 6 rfl
  refine bodyPost_ret (v := frv (recF n)) ?_ rfl ⟨rfl, K9.tail⟩
  simp [results, Try.results10, go_sem, r0, r1, r2, r3, r4, r5, r6, frv, recF, barF]
theorem bar11 (n : Int) (o : Bool) (w w0 : World) (R : List HP) (H : Hs w0 w R) : Calls Try.prog 11 #[.int .u64 n, .bool o] w fun e w' => e = .returned (frv (barF n o)) ∧ Hs w0 w' R := by
  have K := Lib.hid (H.alloc (.cells #[.int .i64 0, .int .i64 0, .int .i64 0, .int .i64 0, .int .i64 0, .int .u64 0, .bool false] 31))
  clear H
  go_enter Try.func11, Try.ntmps11
  go_upto_region 1 with (fail)
  generalize World.alloc _ _ = w1 at K ⊢
  generalize w.heap.size = br at K ⊢
  have L := K.out
  clear K
  have b0 : w1.cell? ⟨br, 0, none⟩ = some (.int .i64 0) := L.cellOf 0 rfl
  have b1 : w1.cell? ⟨br, 1, none⟩ = some (.int .i64 0) := L.cellOf 1 rfl
  have b2 : w1.cell? ⟨br, 2, none⟩ = some (.int .i64 0) := L.cellOf 2 rfl
  have b3 : w1.cell? ⟨br, 3, none⟩ = some (.int .i64 0) := L.cellOf 3 rfl
  have b4 : w1.cell? ⟨br, 4, none⟩ = some (.int .i64 0) := L.cellOf 4 rfl
  have b5 : w1.cell? ⟨br, 5, none⟩ = some (.int .u64 0) := L.cellOf 5 rfl
  have b6 : w1.cell? ⟨br, 6, none⟩ = some (.bool false) := L.cellOf 6 rfl
  have g0 := L.frozenOf 0
  have g1 := L.frozenOf 1
  have g2 := L.frozenOf 2
  have g3 := L.frozenOf 3
  have g4 := L.frozenOf 4
  have g5 := L.frozenOf 5
  have g6 := L.frozenOf 6
  have K9 := (((((((L.setCell (i := 0) (.int .i64 3)).setCell (i := 1) (.int .i64 0)).setCell (i := 2) (.int .i64 0)).setCell (i := 3) (.int .i64 0)).setCell (i := 4) (.int .i64 0)).setCell (i := 5) (.int .u64 n)).setCell (i := 6) (.bool o))
  clear L
  go_wp2_with fail
  generalize World.setCell _ _ _ = w9 at K9 ⊢
  simp only [List.setIfInBounds_toArray, List.set_cons_zero, List.set_cons_succ] at K9
  have r0 : w9.cell? ⟨br, 0, none⟩ = some (.int .i64 3) := K9.cellOf 0 rfl
  have r1 : w9.cell? ⟨br, 1, none⟩ = some (.int .i64 0) := K9.cellOf 1 rfl
  have r2 : w9.cell? ⟨br, 2, none⟩ = some (.int .i64 0) := K9.cellOf 2 rfl
  have r3 : w9.cell? ⟨br, 3, none⟩ = some (.int .i64 0) := K9.cellOf 3 rfl
  have r4 : w9.cell? ⟨br, 4, none⟩ = some (.int .i64 0) := K9.cellOf 4 rfl
  have r5 : w9.cell? ⟨br, 5, none⟩ = some (.int .u64 n) := K9.cellOf 5 rfl
  have r6 : w9.cell? ⟨br, 6, none⟩ = some (.bool o) := K9.cellOf 6 rfl
  refine bodyPost_ret (v := frv (barF n o)) ?_ rfl ⟨rfl, K9.tail⟩
  simp [results, Try.results11, go_sem, r0, r1, r2, r3, r4, r5, r6, frv, recF, barF]
theorem takes (p : Nat) (s : Gt) (N : Nat) (ch : Int) (f : Fr) (w w0 : World) (R : List HP) (H : Hs w0 w (GateP p s :: R)) (hok : s.Ok N) (hbd : s.cap.length ≤ 1000000) (s' : Gt) (x : Stp) (e : Int) (he : s.take ch f = (s', x, e)) :
    Calls Try.prog 14 #[.pointer (some ⟨p, 0, none⟩), .int .i64 ch, frv f] w fun r w' => r = .returned (.tuple #[stv x, .int .i64 e]) ∧ Hs w0 w' (GateP p s' :: R) := by
  have h := take14 p ch f s N w w0 R H hok hbd
  rw [he] at h
  exact h
theorem fresh2 : Gt.new 2 = (⟨[minMark, minMark], [false, false], [false, false], 0, 0, false, []⟩ : Gt) := rfl
theorem kt0 : Gt.take (⟨[minMark, minMark], [false, false], [false, false], 0, 0, false, []⟩ : Gt) 0 (barF 1 false) = ((⟨[minMark, minMark], [true, false], [true, false], 1, 1, false, []⟩ : Gt), noStep, 0) := by rfl
theorem kt1 : Gt.take (⟨[minMark, minMark], [true, false], [true, false], 1, 1, false, []⟩ : Gt) 0 (recF 1) = ((⟨[minMark, minMark], [true, false], [true, false], 1, 1, false, []⟩ : Gt), noStep, 150) := by rfl
theorem kt2 : Gt.take (⟨[minMark, minMark], [true, false], [true, false], 1, 1, false, []⟩ : Gt) 1 (recF 2) = ((⟨[minMark, minMark], [true, false], [true, false], 1, 1, false, []⟩ : Gt), (1, (0, 0, 2), 0, 0, 0), 0) := by rfl
theorem kt3 : Gt.take (⟨[minMark, minMark], [true, false], [true, false], 1, 1, false, []⟩ : Gt) 1 (barF 1 false) = ((⟨[minMark, minMark], [true, true], [false, false], 0, 1, false, []⟩ : Gt), (3, (0, 0, 0), 0, 1, 1), 0) := by rfl
theorem kt4 : Gt.take (⟨[minMark, minMark], [false, false], [false, false], 0, 0, false, []⟩ : Gt) 0 (barF 1 true) = ((⟨[minMark, minMark], [true, false], [false, false], 1, 1, true, []⟩ : Gt), (3, (0, 0, 0), 0, 1, 0), 0) := by rfl
theorem kt5 : Gt.take (⟨[minMark, minMark], [true, false], [false, false], 1, 1, true, []⟩ : Gt) 1 (recF 3) = ((⟨[minMark, minMark], [true, false], [false, false], 1, 1, true, [(1, recF 3)]⟩ : Gt), (1, (0, 0, 3), 0, 0, 0), 0) := by rfl
theorem kt6 : Gt.take (⟨[minMark, minMark], [true, false], [false, false], 1, 1, true, [(1, recF 3)]⟩ : Gt) 1 (barF 1 true) = ((⟨[minMark, minMark], [true, true], [false, false], 0, 1, true, [(1, recF 3)]⟩ : Gt), (0, (0, 0, 0), 0, 0, 1), 0) := by rfl
set_option maxRecDepth 100000 in
set_option maxHeartbeats 2000000 in
theorem known8 (w w0 : World) (R : List HP) (H : Hs w0 w R) : Calls Try.prog 8 #[] w fun e w' => e = .returned (.bool true) ∧ Hs w0 w' R := by
  go_enter Try.func8, Try.ntmps8
  go_wp2_with fail
  refine (new12 2 _ w0 R H).mono ?_
  rw [fresh2]
  rintro e w1 ⟨p, rfl, H1⟩
  clear H
  go_wp2_with fail
  refine (new12 2 _ w0 _ H1).mono ?_
  rw [fresh2]
  rintro e w2 ⟨q, rfl, H2⟩
  clear H1
  replace H2 := H2.at1
  go_wp2_with fail
  refine (bar11 1 false _ w0 _ H2).mono ?_
  rintro e w4 ⟨rfl, H3⟩
  clear H2
  go_wp2_with fail
  refine (takes p _ 2 0 (barF 1 false) _ w0 _ H3 ⟨rfl, rfl, rfl⟩ (by decide) _ _ _ kt0).mono ?_
  rintro e w5 ⟨rfl, H4⟩
  clear H3
  simp only [stv, noStep]
  go_upto_region 5 with (fail)
  have H5 := H4.alloc (.cells #[.int .i64 0, .int .i64 0, .int .i64 0, .int .i64 0, .int .i64 0, .int .u64 0, .int .u64 0] 38)
  clear H4
  generalize World.alloc _ _ = w6 at H5 ⊢
  generalize w5.heap.size = bx0 at H5 ⊢
  replace H2 := H5.at1.at2.at1
  clear H5
  go_wp2_with fail
  refine (blocked13 p _ _ w0 _ H2 0).mono ?_
  rintro e w3 ⟨rfl, rfl⟩
  rw [show Gt.blocked (⟨[minMark, minMark], [true, false], [true, false], 1, 1, false, []⟩ : Gt) 0 = true from rfl]
  go_wp2_with fail
  refine (rec10 1 _ w0 _ H2).mono ?_
  rintro e w4 ⟨rfl, H3⟩
  clear H2
  go_wp2_with fail
  refine (takes p _ 2 0 (recF 1) _ w0 _ H3 ⟨rfl, rfl, rfl⟩ (by decide) _ _ _ kt1).mono ?_
  rintro e w5 ⟨rfl, H4⟩
  clear H3
  simp only [stv, noStep]
  go_upto_region 7 with (fail)
  have H5 := H4.alloc (.cells #[.int .i64 0, .int .i64 0, .int .i64 0, .int .i64 0, .int .i64 0, .int .u64 0, .int .u64 0] 38)
  clear H4
  generalize World.alloc _ _ = w6 at H5 ⊢
  generalize w5.heap.size = bx1 at H5 ⊢
  replace H2 := H5.at1.at2.at1
  clear H5
  go_wp2_with fail
  refine (rec10 2 _ w0 _ H2).mono ?_
  rintro e w4 ⟨rfl, H3⟩
  clear H2
  go_wp2_with fail
  refine (takes p _ 2 1 (recF 2) _ w0 _ H3 ⟨rfl, rfl, rfl⟩ (by decide) _ _ _ kt2).mono ?_
  rintro e w5 ⟨rfl, H4⟩
  clear H3
  simp only [stv, noStep]
  go_upto_region 8 with (fail)
  have H5 := H4.alloc (.cells #[.int .i64 1, .int .i64 0, .int .i64 0, .int .i64 2, .int .i64 0, .int .u64 0, .int .u64 0] 38)
  clear H4
  generalize World.alloc _ _ = w6 at H5 ⊢
  generalize w5.heap.size = bx2 at H5 ⊢
  replace H2 := H5.at1.at2.at1
  clear H5
  go_wp2_with fail
  refine (bar11 1 false _ w0 _ H2).mono ?_
  rintro e w4 ⟨rfl, H3⟩
  clear H2
  go_wp2_with fail
  refine (takes p _ 2 1 (barF 1 false) _ w0 _ H3 ⟨rfl, rfl, rfl⟩ (by decide) _ _ _ kt3).mono ?_
  rintro e w5 ⟨rfl, H4⟩
  clear H3
  simp only [stv, noStep]
  go_upto_region 9 with (fail)
  have H5 := H4.alloc (.cells #[.int .i64 3, .int .i64 0, .int .i64 0, .int .i64 0, .int .i64 0, .int .u64 1, .int .u64 1] 38)
  clear H4
  generalize World.alloc _ _ = w6 at H5 ⊢
  generalize w5.heap.size = bx3 at H5 ⊢
  replace H2 := H5.at1.at2.at1
  clear H5
  go_wp2_with fail
  refine (bar11 1 true _ w0 _ H2).mono ?_
  rintro e w4 ⟨rfl, H3⟩
  clear H2
  go_wp2_with fail
  refine (takes q _ 2 0 (barF 1 true) _ w0 _ H3.at1 ⟨rfl, rfl, rfl⟩ (by decide) _ _ _ kt4).mono ?_
  rintro e w5 ⟨rfl, H4⟩
  clear H3
  simp only [stv, noStep]
  go_upto_region 10 with (fail)
  have H5 := H4.alloc (.cells #[.int .i64 3, .int .i64 0, .int .i64 0, .int .i64 0, .int .i64 0, .int .u64 1, .int .u64 0] 38)
  clear H4
  generalize World.alloc _ _ = w6 at H5 ⊢
  generalize w5.heap.size = bx4 at H5 ⊢
  replace H2 := H5.at1.at2
  clear H5
  go_wp2_with fail
  refine (rec10 3 _ w0 _ H2).mono ?_
  rintro e w4 ⟨rfl, H3⟩
  clear H2
  go_wp2_with fail
  refine (takes q _ 2 1 (recF 3) _ w0 _ H3.at1 ⟨rfl, rfl, rfl⟩ (by decide) _ _ _ kt5).mono ?_
  rintro e w5 ⟨rfl, H4⟩
  clear H3
  simp only [stv, noStep]
  replace H2 := H4.at1
  clear H4
  go_wp2_with fail
  refine (bar11 1 true _ w0 _ H2).mono ?_
  rintro e w4 ⟨rfl, H3⟩
  clear H2
  go_wp2_with fail
  refine (takes q _ 2 1 (barF 1 true) _ w0 _ H3.at1 ⟨rfl, rfl, rfl⟩ (by decide) _ _ _ kt6).mono ?_
  rintro e w5 ⟨rfl, H4⟩
  clear H3
  simp only [stv, noStep]
  go_upto_region 12 with (fail)
  have H5 := H4.alloc (.cells #[.int .i64 0, .int .i64 0, .int .i64 0, .int .i64 0, .int .i64 0, .int .u64 0, .int .u64 1] 38)
  clear H4
  generalize World.alloc _ _ = w6 at H5 ⊢
  generalize w5.heap.size = bx6 at H5 ⊢
  replace H2 := H5.at1.at2
  clear H5
  go_wp2_with fail
  refine (captured16 q _ _ w0 _ H2.at1 (by decide)).mono ?_
  rintro e w7 ⟨A, c, rfl, H3⟩
  clear H2
  simp only [List.length_cons, List.length_nil, Nat.zero_add] at H3 ⊢
  have H6 := H3.at2
  have e0_0 : w7.cell? ⟨bx0, 0, none⟩ = some (.int .i64 0) := H3.tail.tail.tail.tail.tail.tail.tail.tail.cellOf 0 rfl
  have e2_0 : w7.cell? ⟨bx2, 0, none⟩ = some (.int .i64 1) := H3.tail.tail.tail.tail.tail.tail.cellOf 0 rfl
  have e3_0 : w7.cell? ⟨bx3, 0, none⟩ = some (.int .i64 3) := H3.tail.tail.tail.tail.tail.cellOf 0 rfl
  have e3_5 : w7.cell? ⟨bx3, 5, none⟩ = some (.int .u64 1) := H3.tail.tail.tail.tail.tail.cellOf 5 rfl
  have e3_6 : w7.cell? ⟨bx3, 6, none⟩ = some (.int .u64 1) := H3.tail.tail.tail.tail.tail.cellOf 6 rfl
  have e4_0 : w7.cell? ⟨bx4, 0, none⟩ = some (.int .i64 3) := H3.tail.tail.tail.tail.cellOf 0 rfl
  have e4_6 : w7.cell? ⟨bx4, 6, none⟩ = some (.int .u64 0) := H3.tail.tail.tail.tail.cellOf 6 rfl
  have e6_0 : w7.cell? ⟨bx6, 0, none⟩ = some (.int .i64 0) := H3.tail.tail.tail.cellOf 0 rfl
  have e6_6 : w7.cell? ⟨bx6, 6, none⟩ = some (.int .u64 1) := H3.tail.tail.tail.cellOf 6 rfl
  obtain ⟨g, off, rfl⟩ := H3.ls_rd.some_ (by decide)
  have hcc := H3.ls_rd.caps.2
  have l0 : w7.cell? ⟨g, off, none⟩ = some (.int .i64 1) := by have := H3.ls_rd.cell (i := 0) rfl 0 rfl; simpa [recF] using this
  have l3 : w7.cell? ⟨g, off + 4, none⟩ = some (.int .i64 3) := by have := H3.ls_rd.cell (i := 0) rfl 4 rfl; simpa [recF] using this
  go_wp2_with fail
  refine (blocked13 p _ _ w0 _ H6 0).mono ?_
  rintro e w8 ⟨rfl, rfl⟩
  rw [show Gt.blocked (⟨[minMark, minMark], [true, true], [false, false], 0, 1, false, []⟩ : Gt) 0 = false from rfl]
  clear H3
  go_wp2_with fail
  go_ret
  exact ⟨rfl, H6.tail.tail.tail.tail.tail.tail.tail.tail.tail⟩
end Go.Proofs.Ytlhgmfdmkckmhaa

import Derived.Test.YtjlonfldcmcchaaMd
import Derived.Test.YtjlonfldcmcchaaProg
import Derived.Test.YtjlonfldcmcchaaLs
import Derived.Outline
import Derived.StillTailTactics
import Derived.Deep.DeepCutAuto
import Derived.Deep.CutBlock
import Derived.Deep.LoopGhost
import Derived.Deep.QuietTactic
import Derived.BigQuiet
import Derived.Deep.RegionHeld3
import Derived.Deep.RegionLaw
set_option linter.unusedVariables false
set_option linter.unusedSimpArgs false
namespace Go.Proofs.Ytjlonfldcmcchaa
open Go.RowKit
/-- Are two lists the same? (one-cell elements) -/
theorem eqlist21 (v1 v2 : Value) (xs ys : List (Int)) (w : World) (h1 : RdL (Enc.num .u64) w v1 xs) (h2 : RdL (Enc.num .u64) w v2 ys) :
    Calls Try.prog 21 #[v1, v2] w fun e w' => e = .returned (.bool (decide (xs = ys))) ∧ ∃ n, w' = w.drewN n := by
  obtain ⟨A, c, rfl⟩ := h1.form
  obtain ⟨B, d, rfl⟩ := h2.form
  obtain ⟨_, ha, hb⟩ := h1.caps
  obtain ⟨_, hc, hd⟩ := h2.caps
  by_cases hl : xs.length = ys.length
  · have hne : ((xs.length : Int) != (ys.length : Int)) = false := by rw [hl]; simp
    clear hne
    generalize hn : xs.length = n at *
    generalize hm : ys.length = m at *
    subst hl
    have hr1 := Lib.hid h1
    have hr2 := Lib.hid h2
    replace hn := Lib.hid hn
    have hl' := Lib.hid hm
    clear h1 h2 hm
    go_enter Try.func21, Try.ntmps21
    go_wp2_with fail
    go_loopg [5] n (fun k i wr => ∃ (j q : Nat), k + j = n ∧ i = .int .i64 j ∧ Hid (xs.take j = ys.take j) ∧ wr = w.drewN q)
    case atStart => exact ⟨0, 0, rfl, rfl, rfl, rfl⟩
    case round =>
      obtain ⟨j, q, hk, rfl, he, rfl⟩ := hrel
      have hjn : j ≤ n := by omega
      replace hk := Lib.hid hk
      rcases Nat.lt_or_ge j n with hj | hj
      · obtain ⟨g, off, rfl⟩ := hr1.out.some_ (by have := hn.out; omega)
        obtain ⟨g2, off2, rfl⟩ := hr2.out.some_ (by have := hl'.out; omega)
        obtain ⟨x, hx⟩ : ∃ x, xs[j]? = some x := ⟨_, List.getElem?_eq_getElem (by have := hn.out; omega)⟩
        obtain ⟨y, hy⟩ : ∃ y, ys[j]? = some y := ⟨_, List.getElem?_eq_getElem (by have := hl'.out; omega)⟩
        have s0 : w.cell? ⟨g, off + j, none⟩ = some (Value.int .u64 x) := by have := hr1.out.cell hx 0 rfl; simpa [Enc.num, Enc.str, Enc.flag] using this
        have s1 : w.cell? ⟨g2, off2 + j, none⟩ = some (Value.int .u64 y) := by have := hr2.out.cell hy 0 rfl; simpa [Enc.num, Enc.str, Enc.flag] using this
        have hj0 : (0 : Int) ≤ (j : Int) := by omega
        have hj1 : (j : Int) < (n : Int) := by omega
        replace hx := Lib.hid hx
        replace hy := Lib.hid hy
        by_cases hxy : x = y
        · subst hxy
          go_wp2_with fail
          go_quiet (fail)
          go_wp2_with fail
          go_roundg (n - (j + 1))
          case measure => have := hk.out; omega
          case rel =>
            refine ⟨j + 1, _, by have := hk.out; omega, by go_num, ?_, by first | rfl | exact World.drewN_drewN ..⟩
            show _ = _
            rw [List.take_add_one, List.take_add_one, he.out, hx.out, hy.out]
        · have hb1 : (x != y) = true := by rw [bne_iff_ne]; exact hxy
          have hne2 : Hid (¬ xs = ys) := fun e => hxy (by have h1 := hx.out; have h2 := hy.out; rw [e, h2] at h1; injection h1 with h1; exact h1.symm)
          go_wp2_with fail
          go_quiet (fail)
          go_wp2_with fail
          go_ret
          exact ⟨by rw [decide_eq_false hne2.out]; rfl, _, by first | rfl | exact World.drewN_drewN ..⟩
      · go_wp2_with fail
        go_ret
        refine ⟨?_, _, rfl⟩
        have : xs = ys := by
          have h := he.out
          have h1 := hn.out
          have h2 := hl'.out
          rwa [List.take_of_length_le (by omega), List.take_of_length_le (by omega)] at h
        rw [decide_eq_true this]
        rfl
  · have hne : ((xs.length : Int) != (ys.length : Int)) = true := by rw [bne_iff_ne]; omega
    have hne2 : Hid (¬ xs = ys) := fun e => hl (by rw [e])
    clear h1 h2
    go_enter Try.func21, Try.ntmps21
    go_wp2_with fail
    go_ret
    exact ⟨by rw [decide_eq_false hne2.out]; rfl, 0, rfl⟩
theorem neq17 (x0 x1 x2 y0 y1 y2 : Int) (h : ¬ (x0 = y0 ∧ x1 = y1 ∧ x2 = y2)) (w : World) :
    (binOp .neq 39 (.agg #[.int .i64 x0, .int .i64 x1, .int .i64 x2]) (.agg #[.int .i64 y0, .int .i64 y1, .int .i64 y2])).run Try.prog w = .ok (.bool true) w := by
  have u := Try.underlying39
  by_cases h0 : x0 = y0
  · by_cases h1 : x1 = y1
    · by_cases h2 : x2 = y2
      · exact absurd ⟨h0, h1, h2⟩ h
      · have e2 : (x2 == y2) = false := by rw [beq_eq_false_iff_ne]; exact h2
        subst h0; subst h1
        simp [go_sem, e2]
    · have e1 : (x1 == y1) = false := by rw [beq_eq_false_iff_ne]; exact h1
      subst h0
      simp [go_sem, e1]
  · have e0 : (x0 == y0) = false := by rw [beq_eq_false_iff_ne]; exact h0
    simp [go_sem, e0]
/-- Are two lists the same? (elements of three integer cells) -/
theorem eqrec17 (v1 v2 : Value) (xs ys : List (Rec)) (w : World) (h1 : RdL (ERec) w v1 xs) (h2 : RdL (ERec) w v2 ys) :
    Calls Try.prog 17 #[v1, v2] w fun e w' => e = .returned (.bool (decide (xs = ys))) ∧ ∃ n, w' = w.drewN n := by
  obtain ⟨A, c, rfl⟩ := h1.form
  obtain ⟨B, d, rfl⟩ := h2.form
  obtain ⟨_, ha, hb⟩ := h1.caps
  obtain ⟨_, hc, hd⟩ := h2.caps
  by_cases hl : xs.length = ys.length
  · generalize hn : xs.length = n at *
    generalize hm : ys.length = m at *
    subst hl
    have hr1 := Lib.hid h1
    have hr2 := Lib.hid h2
    replace hn := Lib.hid hn
    have hl' := Lib.hid hm
    clear h1 h2 hm
    go_enter Try.func17, Try.ntmps17
    go_wp2_with fail
    go_loopg [5] n (fun k i wr => ∃ (j q : Nat), k + j = n ∧ i = .int .i64 j ∧ Hid (xs.take j = ys.take j) ∧ wr = w.drewN q)
    case atStart => exact ⟨0, 0, rfl, rfl, rfl, rfl⟩
    case round =>
      obtain ⟨j, q, hk, rfl, he, rfl⟩ := hrel
      have hjn : j ≤ n := by omega
      replace hk := Lib.hid hk
      rcases Nat.lt_or_ge j n with hj | hj
      · obtain ⟨g, off, rfl⟩ := hr1.out.some_ (by have := hn.out; omega)
        obtain ⟨g2, off2, rfl⟩ := hr2.out.some_ (by have := hl'.out; omega)
        obtain ⟨x, hx⟩ : ∃ x, xs[j]? = some x := ⟨_, List.getElem?_eq_getElem (by have := hn.out; omega)⟩
        obtain ⟨y, hy⟩ : ∃ y, ys[j]? = some y := ⟨_, List.getElem?_eq_getElem (by have := hl'.out; omega)⟩
        have s0 : w.cell? ⟨g, off + j * 3, none⟩ = some (.int .i64 x.1) := hr1.out.cell hx 0 rfl
        have s1 : w.cell? ⟨g, off + j * 3 + 1, none⟩ = some (.int .i64 x.2.1) := hr1.out.cell hx 1 rfl
        have s2 : w.cell? ⟨g, off + j * 3 + 2, none⟩ = some (.int .i64 x.2.2) := hr1.out.cell hx 2 rfl
        have q0 : w.cell? ⟨g2, off2 + j * 3, none⟩ = some (.int .i64 y.1) := hr2.out.cell hy 0 rfl
        have q1 : w.cell? ⟨g2, off2 + j * 3 + 1, none⟩ = some (.int .i64 y.2.1) := hr2.out.cell hy 1 rfl
        have q2 : w.cell? ⟨g2, off2 + j * 3 + 2, none⟩ = some (.int .i64 y.2.2) := hr2.out.cell hy 2 rfl
        have hj0 : (0 : Int) ≤ (j : Int) := by omega
        have hj1 : (j : Int) < (n : Int) := by omega
        replace hx := Lib.hid hx
        replace hy := Lib.hid hy
        obtain ⟨x0, x1, x2⟩ := x
        obtain ⟨y0, y1, y2⟩ := y
        simp only at s0 s1 s2 q0 q1 q2
        by_cases hxy : x0 = y0 ∧ x1 = y1 ∧ x2 = y2
        · obtain ⟨rfl, rfl, rfl⟩ := hxy
          go_wp2_with fail
          go_quiet (fail)
          go_wp2_with fail
          go_roundg (n - (j + 1))
          case measure => have := hk.out; omega
          case rel =>
            refine ⟨j + 1, _, by have := hk.out; omega, by go_num, ?_, by first | rfl | exact World.drewN_drewN ..⟩
            show _ = _
            rw [List.take_add_one, List.take_add_one, he.out, hx.out, hy.out]
        · have hne2 : Hid (¬ xs = ys) := fun e => hxy (by have h1 := hx.out; have h2 := hy.out; rw [e, h2] at h1; simp only [Option.some.injEq, Prod.mk.injEq] at h1; exact ⟨h1.1.symm, h1.2.1.symm, h1.2.2.symm⟩)
          have hq := neq17 x0 x1 x2 y0 y1 y2 hxy
          clear hxy
          go_wp2_with fail
          go_quiet (fail)
          go_wp2_with fail
          go_ret
          exact ⟨by rw [decide_eq_false hne2.out]; rfl, _, by first | rfl | exact World.drewN_drewN ..⟩
      · go_wp2_with fail
        go_ret
        refine ⟨?_, _, rfl⟩
        have : xs = ys := by
          have h := he.out
          have h1 := hn.out
          have h2 := hl'.out
          rwa [List.take_of_length_le (by omega), List.take_of_length_le (by omega)] at h
        rw [decide_eq_true this]
        rfl
  · have hne : ((xs.length : Int) != (ys.length : Int)) = true := by rw [bne_iff_ne]; omega
    have hne2 : Hid (¬ xs = ys) := fun e => hl (by rw [e])
    clear h1 h2
    go_enter Try.func17, Try.ntmps17
    go_wp2_with fail
    go_ret
    exact ⟨by rw [decide_eq_false hne2.out]; rfl, 0, rfl⟩
/-- leathelp.Place. -/
theorem place26 (n m : Int) (w : World) (hm : 0 < m) (hm2 : m ≤ 1000000) : Calls Try.prog 26 #[.int .i64 n, .int .i64 m] w fun e w' => e = .returned (.int .i64 (n % m)) ∧ w = w' := by
  have h1 := Int.tmod_lt_of_pos n hm
  have h2 := Int.lt_tmod_of_pos n hm
  have hz : m ≠ 0 := by omega
  have hz0 : (m == 0) = false := by rw [beq_eq_false_iff_ne]; exact hz
  rcases Int.lt_or_le (n.tmod m) 0 with h | h
  · have e1 := Lib.hid (tmod_up n m hm h)
    go_enter Try.func26, Try.ntmps26
    go_wp2_with fail
    go_ret
    rw [← e1.out]
    exact ⟨rfl, rfl⟩
  · have e1 := Lib.hid (tmod_in n m hm h)
    go_enter Try.func26, Try.ntmps26
    go_wp2_with fail
    go_ret
    rw [← e1.out]
    exact ⟨rfl, rfl⟩
end Go.Proofs.Ytjlonfldcmcchaa

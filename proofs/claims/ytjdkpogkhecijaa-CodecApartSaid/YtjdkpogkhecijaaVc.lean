import Derived.Test.YtjdkpogkhecijaaUe
import Derived.Test.YtjdkpogkhecijaaKn
import Derived.IntWalk
import Derived.Test.YtjdkpogkhecijaaProg
import Derived.Test.YtjdkpogkhecijaaLs
import Derived.Outline
import Derived.StillTailTactics
import Derived.Deep.DeepCutAuto
import Derived.Deep.CutBlock
import Derived.Deep.LoopGhost
import Derived.Deep.QuietTactic
import Derived.BigQuiet
import Derived.Deep.RegionHeld3
import Derived.Deep.RegionLaw
set_option linter.unusedVariables false
set_option linter.unusedSimpArgs false
namespace Go.Proofs.Ytjdkpogkhecijaa
open Go.RowKit
/-- Are two lists the same? (one-cell elements) -/
theorem eqlist56 (v1 v2 : Value) (xs ys : List (Int)) (w : World) (h1 : RdL (Enc.num .i64) w v1 xs) (h2 : RdL (Enc.num .i64) w v2 ys) :
    Calls Try.prog 56 #[v1, v2] w fun e w' => e = .returned (.bool (decide (xs = ys))) ∧ ∃ n, w' = w.drewN n := by
  obtain ⟨A, c, rfl⟩ := h1.form
  obtain ⟨B, d, rfl⟩ := h2.form
  obtain ⟨_, ha, hb⟩ := h1.caps
  obtain ⟨_, hc, hd⟩ := h2.caps
  by_cases hl : xs.length = ys.length
  · have hne : ((xs.length : Int) != (ys.length : Int)) = false := by rw [hl]; simp
    clear hne
    generalize hn : xs.length = n at *
    generalize hm : ys.length = m at *
    subst hl
    have hr1 := Lib.hid h1
    have hr2 := Lib.hid h2
    replace hn := Lib.hid hn
    have hl' := Lib.hid hm
    clear h1 h2 hm
    go_enter Try.func56, Try.ntmps56
    go_wp2_with fail
    go_loopg [5] n (fun k i wr => ∃ (j q : Nat), k + j = n ∧ i = .int .i64 j ∧ Hid (xs.take j = ys.take j) ∧ wr = w.drewN q)
    case atStart => exact ⟨0, 0, rfl, rfl, rfl, rfl⟩
    case round =>
      obtain ⟨j, q, hk, rfl, he, rfl⟩ := hrel
      have hjn : j ≤ n := by omega
      replace hk := Lib.hid hk
      rcases Nat.lt_or_ge j n with hj | hj
      · obtain ⟨g, off, rfl⟩ := hr1.out.some_ (by have := hn.out; omega)
        obtain ⟨g2, off2, rfl⟩ := hr2.out.some_ (by have := hl'.out; omega)
        obtain ⟨x, hx⟩ : ∃ x, xs[j]? = some x := ⟨_, List.getElem?_eq_getElem (by have := hn.out; omega)⟩
        obtain ⟨y, hy⟩ : ∃ y, ys[j]? = some y := ⟨_, List.getElem?_eq_getElem (by have := hl'.out; omega)⟩
        have s0 : w.cell? ⟨g, off + j, none⟩ = some (Value.int .i64 x) := by have := hr1.out.cell hx 0 rfl; simpa [Enc.num, Enc.str, Enc.flag] using this
        have s1 : w.cell? ⟨g2, off2 + j, none⟩ = some (Value.int .i64 y) := by have := hr2.out.cell hy 0 rfl; simpa [Enc.num, Enc.str, Enc.flag] using this
        have hj0 : (0 : Int) ≤ (j : Int) := by omega
        have hj1 : (j : Int) < (n : Int) := by omega
        replace hx := Lib.hid hx
        replace hy := Lib.hid hy
        by_cases hxy : x = y
        · subst hxy
          go_wp2_with fail
          go_quiet (fail)
          go_wp2_with fail
          go_roundg (n - (j + 1))
          case measure => have := hk.out; omega
          case rel =>
            refine ⟨j + 1, _, by have := hk.out; omega, by go_num, ?_, by first | rfl | exact World.drewN_drewN ..⟩
            show _ = _
            rw [List.take_add_one, List.take_add_one, he.out, hx.out, hy.out]
        · have hb1 : (x != y) = true := by rw [bne_iff_ne]; exact hxy
          have hne2 : Hid (¬ xs = ys) := fun e => hxy (by have h1 := hx.out; have h2 := hy.out; rw [e, h2] at h1; injection h1 with h1; exact h1.symm)
          go_wp2_with fail
          go_quiet (fail)
          go_wp2_with fail
          go_ret
          exact ⟨by rw [decide_eq_false hne2.out]; rfl, _, by first | rfl | exact World.drewN_drewN ..⟩
      · go_wp2_with fail
        go_ret
        refine ⟨?_, _, rfl⟩
        have : xs = ys := by
          have h := he.out
          have h1 := hn.out
          have h2 := hl'.out
          rwa [List.take_of_length_le (by omega), List.take_of_length_le (by omega)] at h
        rw [decide_eq_true this]
        rfl
  · have hne : ((xs.length : Int) != (ys.length : Int)) = true := by rw [bne_iff_ne]; omega
    have hne2 : Hid (¬ xs = ys) := fun e => hl (by rw [e])
    clear h1 h2
    go_enter Try.func56, Try.ntmps56
    go_wp2_with fail
    go_ret
    exact ⟨by rw [decide_eq_false hne2.out]; rfl, 0, rfl⟩
theorem neqP (x0 x1 x2 x3 y0 y1 y2 y3 : Int) (h : ¬ (x0 = y0 ∧ x1 = y1 ∧ x2 = y2 ∧ x3 = y3)) (w : World) :
    (binOp .neq 106 (.agg #[.int .i64 x0, .int .i64 x1, .int .i64 x2, .int .i64 x3]) (.agg #[.int .i64 y0, .int .i64 y1, .int .i64 y2, .int .i64 y3])).run Try.prog w = .ok (.bool true) w := by
  have u := Try.underlying106
  simp [go_sem]
  intro h0_ h1_ h2_ h_
  exact h ⟨h0_, h1_, h2_, h_⟩
theorem neqO (x0 x1 x2 x3 x4 x5 x6 y0 y1 y2 y3 y4 y5 y6 : Int) (x7 : Bool) (y7 : Bool) (h : ¬ (x0 = y0 ∧ x1 = y1 ∧ x2 = y2 ∧ x3 = y3 ∧ x4 = y4 ∧ x5 = y5 ∧ x6 = y6 ∧ x7 = y7)) (w : World) :
    (binOp .neq 97 (.agg #[.int .i64 x0, .int .i64 x1, .int .i64 x2, .int .i64 x3, .int .i64 x4, .int .i64 x5, .int .u64 x6, .bool x7]) (.agg #[.int .i64 y0, .int .i64 y1, .int .i64 y2, .int .i64 y3, .int .i64 y4, .int .i64 y5, .int .u64 y6, .bool y7])).run Try.prog w = .ok (.bool true) w := by
  have u := Try.underlying97
  simp [go_sem]
  intro h0_ h1_ h2_ h3_ h4_ h5_ h6_ h_
  exact h ⟨h0_, h1_, h2_, h3_, h4_, h5_, h6_, h_⟩
instance decOt : DecidableEq Ot := fun a b => inferInstanceAs (Decidable ((a : Int × Int × (Int × Int × Int) × Int × Int × Bool) = b))
set_option maxRecDepth 100000 in
set_option maxHeartbeats 1600000 in
theorem eqagg57 (v1 v2 : Value) (xs ys : List (Pn4)) (w : World) (h1 : RdL ((Enc.num .i64).pair (((Enc.num .i64).pair (Enc.num .i64)).pair (Enc.num .i64))) w v1 xs) (h2 : RdL ((Enc.num .i64).pair (((Enc.num .i64).pair (Enc.num .i64)).pair (Enc.num .i64))) w v2 ys) :
    Calls Try.prog 57 #[v1, v2] w fun e w' => e = .returned (.bool (decide (xs = ys))) ∧ ∃ n, w' = w.drewN n := by
  obtain ⟨A, c, rfl⟩ := h1.form
  obtain ⟨B, d, rfl⟩ := h2.form
  obtain ⟨_, ha, hb⟩ := h1.caps
  obtain ⟨_, hc, hd⟩ := h2.caps
  by_cases hl : xs.length = ys.length
  · generalize hn : xs.length = n at *
    generalize hm : ys.length = m at *
    subst hl
    have hr1 := Lib.hid h1
    have hr2 := Lib.hid h2
    replace hn := Lib.hid hn
    have hl' := Lib.hid hm
    clear h1 h2 hm
    go_enter Try.func57, Try.ntmps57
    go_wp2_with fail
    go_loopg [5] n (fun k i wr => ∃ (j q : Nat), k + j = n ∧ i = .int .i64 j ∧ Hid (xs.take j = ys.take j) ∧ wr = w.drewN q)
    case atStart => exact ⟨0, 0, rfl, rfl, rfl, rfl⟩
    case round =>
      obtain ⟨j, q, hk, rfl, he, rfl⟩ := hrel
      have hjn : j ≤ n := by omega
      replace hk := Lib.hid hk
      rcases Nat.lt_or_ge j n with hj | hj
      · obtain ⟨g, off, rfl⟩ := hr1.out.some_ (by have := hn.out; omega)
        obtain ⟨g2, off2, rfl⟩ := hr2.out.some_ (by have := hl'.out; omega)
        obtain ⟨x, hx⟩ : ∃ x, xs[j]? = some x := ⟨_, List.getElem?_eq_getElem (by have := hn.out; omega)⟩
        obtain ⟨y, hy⟩ : ∃ y, ys[j]? = some y := ⟨_, List.getElem?_eq_getElem (by have := hl'.out; omega)⟩
        obtain ⟨x0, ⟨x1, x2⟩, x3⟩ := x
        obtain ⟨y0, ⟨y1, y2⟩, y3⟩ := y
        have s0 : w.cell? ⟨g, off + j * 4 + 0, none⟩ = some (.int .i64 x0) := hr1.out.cell hx 0 rfl
        have q0_ : w.cell? ⟨g2, off2 + j * 4 + 0, none⟩ = some (.int .i64 y0) := hr2.out.cell hy 0 rfl
        have s1 : w.cell? ⟨g, off + j * 4 + 1, none⟩ = some (.int .i64 x1) := hr1.out.cell hx 1 rfl
        have q1_ : w.cell? ⟨g2, off2 + j * 4 + 1, none⟩ = some (.int .i64 y1) := hr2.out.cell hy 1 rfl
        have s2 : w.cell? ⟨g, off + j * 4 + 2, none⟩ = some (.int .i64 x2) := hr1.out.cell hx 2 rfl
        have q2_ : w.cell? ⟨g2, off2 + j * 4 + 2, none⟩ = some (.int .i64 y2) := hr2.out.cell hy 2 rfl
        have s3 : w.cell? ⟨g, off + j * 4 + 3, none⟩ = some (.int .i64 x3) := hr1.out.cell hx 3 rfl
        have q3_ : w.cell? ⟨g2, off2 + j * 4 + 3, none⟩ = some (.int .i64 y3) := hr2.out.cell hy 3 rfl
        simp only [Nat.add_zero] at s0 q0_
        have hj0 : (0 : Int) ≤ (j : Int) := by omega
        have hj1 : (j : Int) < (n : Int) := by omega
        replace hx := Lib.hid hx
        replace hy := Lib.hid hy
        by_cases hxy : x0 = y0 ∧ x1 = y1 ∧ x2 = y2 ∧ x3 = y3
        · obtain ⟨rfl, rfl, rfl, rfl⟩ := hxy
          go_wp2_with fail
          go_quiet (fail)
          go_wp2_with fail
          go_roundg (n - (j + 1))
          case measure => have := hk.out; omega
          case rel =>
            refine ⟨j + 1, _, by have := hk.out; omega, by go_num, ?_, by first | rfl | exact World.drewN_drewN ..⟩
            show _ = _
            rw [List.take_add_one, List.take_add_one, he.out, hx.out, hy.out]
        · have hne2 : Hid (¬ xs = ys) := fun e => hxy (by
            have h1 := hx.out
            have h2 := hy.out
            rw [e, h2] at h1
            simp only [Option.some.injEq, Prod.mk.injEq] at h1
            simp only [h1, and_self])
          have hq := neqP x0 x1 x2 x3 y0 y1 y2 y3 hxy
          clear hxy
          go_wp2_with fail
          go_quiet (fail)
          go_wp2_with fail
          go_ret
          exact ⟨by rw [decide_eq_false hne2.out]; rfl, _, by first | rfl | exact World.drewN_drewN ..⟩
      · go_wp2_with fail
        go_ret
        refine ⟨?_, _, rfl⟩
        have : xs = ys := by
          have h := he.out
          have h1 := hn.out
          have h2 := hl'.out
          rwa [List.take_of_length_le (by omega), List.take_of_length_le (by omega)] at h
        rw [decide_eq_true this]
        rfl
  · have hne : ((xs.length : Int) != (ys.length : Int)) = true := by rw [bne_iff_ne]; omega
    have hne2 : Hid (¬ xs = ys) := fun e => hl (by rw [e])
    clear h1 h2
    go_enter Try.func57, Try.ntmps57
    go_wp2_with fail
    go_ret
    exact ⟨by rw [decide_eq_false hne2.out]; rfl, 0, rfl⟩
set_option maxRecDepth 100000 in
set_option maxHeartbeats 1600000 in
theorem eqagg58 (v1 v2 : Value) (xs ys : List (Ot)) (w : World) (h1 : RdL ((Enc.num .i64).pair ((Enc.num .i64).pair (((Enc.num .i64).pair ((Enc.num .i64).pair (Enc.num .i64))).pair ((Enc.num .i64).pair ((Enc.num .u64).pair Enc.flag))))) w v1 xs) (h2 : RdL ((Enc.num .i64).pair ((Enc.num .i64).pair (((Enc.num .i64).pair ((Enc.num .i64).pair (Enc.num .i64))).pair ((Enc.num .i64).pair ((Enc.num .u64).pair Enc.flag))))) w v2 ys) :
    Calls Try.prog 58 #[v1, v2] w fun e w' => e = .returned (.bool (decide (xs = ys))) ∧ ∃ n, w' = w.drewN n := by
  obtain ⟨A, c, rfl⟩ := h1.form
  obtain ⟨B, d, rfl⟩ := h2.form
  obtain ⟨_, ha, hb⟩ := h1.caps
  obtain ⟨_, hc, hd⟩ := h2.caps
  by_cases hl : xs.length = ys.length
  · generalize hn : xs.length = n at *
    generalize hm : ys.length = m at *
    subst hl
    have hr1 := Lib.hid h1
    have hr2 := Lib.hid h2
    replace hn := Lib.hid hn
    have hl' := Lib.hid hm
    clear h1 h2 hm
    go_enter Try.func58, Try.ntmps58
    go_wp2_with fail
    go_loopg [5] n (fun k i wr => ∃ (j q : Nat), k + j = n ∧ i = .int .i64 j ∧ Hid (xs.take j = ys.take j) ∧ wr = w.drewN q)
    case atStart => exact ⟨0, 0, rfl, rfl, rfl, rfl⟩
    case round =>
      obtain ⟨j, q, hk, rfl, he, rfl⟩ := hrel
      have hjn : j ≤ n := by omega
      replace hk := Lib.hid hk
      rcases Nat.lt_or_ge j n with hj | hj
      · obtain ⟨g, off, rfl⟩ := hr1.out.some_ (by have := hn.out; omega)
        obtain ⟨g2, off2, rfl⟩ := hr2.out.some_ (by have := hl'.out; omega)
        obtain ⟨x, hx⟩ : ∃ x, xs[j]? = some x := ⟨_, List.getElem?_eq_getElem (by have := hn.out; omega)⟩
        obtain ⟨y, hy⟩ : ∃ y, ys[j]? = some y := ⟨_, List.getElem?_eq_getElem (by have := hl'.out; omega)⟩
        obtain ⟨x0, x1, ⟨x2, x3, x4⟩, x5, x6, x7⟩ := x
        obtain ⟨y0, y1, ⟨y2, y3, y4⟩, y5, y6, y7⟩ := y
        have s0 : w.cell? ⟨g, off + j * 8 + 0, none⟩ = some (.int .i64 x0) := hr1.out.cell hx 0 rfl
        have q0_ : w.cell? ⟨g2, off2 + j * 8 + 0, none⟩ = some (.int .i64 y0) := hr2.out.cell hy 0 rfl
        have s1 : w.cell? ⟨g, off + j * 8 + 1, none⟩ = some (.int .i64 x1) := hr1.out.cell hx 1 rfl
        have q1_ : w.cell? ⟨g2, off2 + j * 8 + 1, none⟩ = some (.int .i64 y1) := hr2.out.cell hy 1 rfl
        have s2 : w.cell? ⟨g, off + j * 8 + 2, none⟩ = some (.int .i64 x2) := hr1.out.cell hx 2 rfl
        have q2_ : w.cell? ⟨g2, off2 + j * 8 + 2, none⟩ = some (.int .i64 y2) := hr2.out.cell hy 2 rfl
        have s3 : w.cell? ⟨g, off + j * 8 + 3, none⟩ = some (.int .i64 x3) := hr1.out.cell hx 3 rfl
        have q3_ : w.cell? ⟨g2, off2 + j * 8 + 3, none⟩ = some (.int .i64 y3) := hr2.out.cell hy 3 rfl
        have s4 : w.cell? ⟨g, off + j * 8 + 4, none⟩ = some (.int .i64 x4) := hr1.out.cell hx 4 rfl
        have q4_ : w.cell? ⟨g2, off2 + j * 8 + 4, none⟩ = some (.int .i64 y4) := hr2.out.cell hy 4 rfl
        have s5 : w.cell? ⟨g, off + j * 8 + 5, none⟩ = some (.int .i64 x5) := hr1.out.cell hx 5 rfl
        have q5_ : w.cell? ⟨g2, off2 + j * 8 + 5, none⟩ = some (.int .i64 y5) := hr2.out.cell hy 5 rfl
        have s6 : w.cell? ⟨g, off + j * 8 + 6, none⟩ = some (.int .u64 x6) := hr1.out.cell hx 6 rfl
        have q6_ : w.cell? ⟨g2, off2 + j * 8 + 6, none⟩ = some (.int .u64 y6) := hr2.out.cell hy 6 rfl
        have s7 : w.cell? ⟨g, off + j * 8 + 7, none⟩ = some (.bool x7) := hr1.out.cell hx 7 rfl
        have q7_ : w.cell? ⟨g2, off2 + j * 8 + 7, none⟩ = some (.bool y7) := hr2.out.cell hy 7 rfl
        simp only [Nat.add_zero] at s0 q0_
        have hj0 : (0 : Int) ≤ (j : Int) := by omega
        have hj1 : (j : Int) < (n : Int) := by omega
        replace hx := Lib.hid hx
        replace hy := Lib.hid hy
        by_cases hxy : x0 = y0 ∧ x1 = y1 ∧ x2 = y2 ∧ x3 = y3 ∧ x4 = y4 ∧ x5 = y5 ∧ x6 = y6 ∧ x7 = y7
        · obtain ⟨rfl, rfl, rfl, rfl, rfl, rfl, rfl, rfl⟩ := hxy
          go_wp2_with fail
          go_quiet (fail)
          go_wp2_with fail
          go_roundg (n - (j + 1))
          case measure => have := hk.out; omega
          case rel =>
            refine ⟨j + 1, _, by have := hk.out; omega, by go_num, ?_, by first | rfl | exact World.drewN_drewN ..⟩
            show _ = _
            rw [List.take_add_one, List.take_add_one, he.out, hx.out, hy.out]
        · have hne2 : Hid (¬ xs = ys) := fun e => hxy (by
            have h1 := hx.out
            have h2 := hy.out
            rw [e, h2] at h1
            simp only [Option.some.injEq, Prod.mk.injEq] at h1
            simp only [h1, and_self])
          have hq := neqO x0 x1 x2 x3 x4 x5 x6 y0 y1 y2 y3 y4 y5 y6 x7 y7 hxy
          clear hxy
          go_wp2_with fail
          go_quiet (fail)
          go_wp2_with fail
          go_ret
          exact ⟨by rw [decide_eq_false hne2.out]; rfl, _, by first | rfl | exact World.drewN_drewN ..⟩
      · go_wp2_with fail
        go_ret
        refine ⟨?_, _, rfl⟩
        have : xs = ys := by
          have h := he.out
          have h1 := hn.out
          have h2 := hl'.out
          rwa [List.take_of_length_le (by omega), List.take_of_length_le (by omega)] at h
        rw [decide_eq_true this]
        rfl
  · have hne : ((xs.length : Int) != (ys.length : Int)) = true := by rw [bne_iff_ne]; omega
    have hne2 : Hid (¬ xs = ys) := fun e => hl (by rw [e])
    clear h1 h2
    go_enter Try.func58, Try.ntmps58
    go_wp2_with fail
    go_ret
    exact ⟨by rw [decide_eq_false hne2.out]; rfl, 0, rfl⟩
/-- Is one the beginning of the other? -/
def beg (xs ys : List Int) : Bool := decide (xs.take (min xs.length ys.length) = ys.take (min xs.length ys.length))
set_option maxRecDepth 100000 in
set_option maxHeartbeats 1600000 in
theorem begins26 (A B : Option Addr) (n c m d : Nat) (xs ys : List Int) (w w0 : World) (R : List HP) (H : Hs w0 w R) (h1 : ∀ w', Hs w0 w' R → RdL U8 w' (.slice A n c) xs) (h2 : ∀ w', Hs w0 w' R → RdL U8 w' (.slice B m d) ys) :
    Calls Try.prog 26 #[.slice A n c, .slice B m d] w fun e w' => e = .returned (.bool (beg xs ys)) ∧ ∃ n, w' = w.drewN n := by
  have hn := (h1 w H).caps.1
  have hm := (h2 w H).caps.1
  have hc := (h1 w H).caps.2
  have hd := (h2 w H).caps.2
  obtain ⟨k, hk⟩ : ∃ k, min n m = k := ⟨_, rfl⟩
  have hbg : beg xs ys = decide (xs.take k = ys.take k) := by unfold beg; rw [← hn, ← hm, hk]
  rw [hbg]
  clear hbg
  have hkn : k ≤ n := by omega
  have hkm : k ≤ m := by omega
  have ct1 := cut_take Try.prog 22 5 1 Try.underlying22 (by kernel_rfl) A n c k (by omega)
  have ct2 := cut_take Try.prog 22 5 1 Try.underlying22 (by kernel_rfl) B m d k (by omega)
  have hdu : ∀ q, Calls Try.prog 12 #[.slice A k c, .slice B k d] (w.drewN q) fun e w'' => e = .returned (.bool (decide (xs.take k = ys.take k))) ∧ ∃ m, w'' = w.drewN m := fun q => by
    refine (eqlist12 _ _ (xs.take k) (ys.take k) (w.drewN q) ((h1 _ (H.drewN q)).take k hkn) ((h2 _ (H.drewN q)).take k hkm)).mono ?_
    rintro e w' ⟨rfl, z, rfl⟩
    exact ⟨rfl, _, by first | rfl | exact World.drewN_drewN ..⟩
  replace hdu := Lib.hid hdu
  generalize decide (xs.take k = ys.take k) = bb at hdu ⊢
  rcases Nat.lt_or_ge m n with hnm | hnm
  rotate_left
  · obtain rfl : k = n := by omega
    have e1 : decide ((k : Int) ≤ (m : Int)) = true := by rw [decide_eq_true_eq]; omega
    have e2 : decide (k ≤ m) = true := by rw [decide_eq_true_eq]; omega
    have e3 : min (k : Int) (m : Int) = (k : Int) := by omega
    have e4 : decide ((m : Int) < (k : Int)) = false := by rw [decide_eq_false_iff_not]; omega
    have e5 : decide (m < k) = false := by rw [decide_eq_false_iff_not]; omega
    clear h1 h2 H hk hn hm
    go_enter Try.func26, Try.ntmps26
    go_wp2_with fail
    go_quiet ((go_at_call 12; exact hdu.out _))
    go_wp2_with fail
    go_ret
    exact ⟨rfl, _, rfl⟩
  · obtain rfl : k = m := by omega
    have e1 : decide ((n : Int) ≤ (k : Int)) = false := by rw [decide_eq_false_iff_not]; omega
    have e2 : decide (n ≤ k) = false := by rw [decide_eq_false_iff_not]; omega
    have e5 : decide (k < n) = true := decide_eq_true hnm
    have e3 : min (n : Int) (k : Int) = (k : Int) := by omega
    have e4 : decide ((k : Int) < (n : Int)) = true := by rw [decide_eq_true_eq]; omega
    clear h1 h2 H hk hn hm
    go_enter Try.func26, Try.ntmps26
    go_wp2_with fail
    go_quiet ((go_at_call 12; exact hdu.out _))
    go_wp2_with fail
    go_ret
    exact ⟨rfl, _, rfl⟩
end Go.Proofs.Ytjdkpogkhecijaa

import Derived.Test.YtbifajiigpalhaaMd
import Derived.Test.YtbifajiigpalhaaProg
import Derived.Test.YtbifajiigpalhaaLs
import Derived.Outline
import Derived.StillTailTactics
import Derived.Deep.DeepCutAuto
import Derived.Deep.CutBlock
import Derived.Deep.LoopGhost
import Derived.Deep.QuietTactic
import Derived.BigQuiet
import Derived.Deep.RegionHeld3
import Derived.Deep.RegionLaw
set_option linter.unusedVariables false
set_option linter.unusedSimpArgs false
namespace Go.Proofs.Ytbifajiigpalhaa
open Go.RowKit
/-- Are two lists the same? (one-cell elements) -/
theorem eqlist13 (v1 v2 : Value) (xs ys : List (Int)) (w : World) (h1 : RdL (Enc.num .i64) w v1 xs) (h2 : RdL (Enc.num .i64) w v2 ys) :
    Calls Try.prog 13 #[v1, v2] w fun e w' => e = .returned (.bool (decide (xs = ys))) ∧ ∃ n, w' = w.drewN n := by
  obtain ⟨A, c, rfl⟩ := h1.form
  obtain ⟨B, d, rfl⟩ := h2.form
  obtain ⟨_, ha, hb⟩ := h1.caps
  obtain ⟨_, hc, hd⟩ := h2.caps
  by_cases hl : xs.length = ys.length
  · have hne : ((xs.length : Int) != (ys.length : Int)) = false := by rw [hl]; simp
    clear hne
    generalize hn : xs.length = n at *
    generalize hm : ys.length = m at *
    subst hl
    have hr1 := Lib.hid h1
    have hr2 := Lib.hid h2
    replace hn := Lib.hid hn
    have hl' := Lib.hid hm
    clear h1 h2 hm
    go_enter Try.func13, Try.ntmps13
    go_wp2_with fail
    go_loopg [5] n (fun k i wr => ∃ (j q : Nat), k + j = n ∧ i = .int .i64 j ∧ Hid (xs.take j = ys.take j) ∧ wr = w.drewN q)
    case atStart => exact ⟨0, 0, rfl, rfl, rfl, rfl⟩
    case round =>
      obtain ⟨j, q, hk, rfl, he, rfl⟩ := hrel
      have hjn : j ≤ n := by omega
      replace hk := Lib.hid hk
      rcases Nat.lt_or_ge j n with hj | hj
      · obtain ⟨g, off, rfl⟩ := hr1.out.some_ (by have := hn.out; omega)
        obtain ⟨g2, off2, rfl⟩ := hr2.out.some_ (by have := hl'.out; omega)
        obtain ⟨x, hx⟩ : ∃ x, xs[j]? = some x := ⟨_, List.getElem?_eq_getElem (by have := hn.out; omega)⟩
        obtain ⟨y, hy⟩ : ∃ y, ys[j]? = some y := ⟨_, List.getElem?_eq_getElem (by have := hl'.out; omega)⟩
        have s0 : w.cell? ⟨g, off + j, none⟩ = some (Value.int .i64 x) := by have := hr1.out.cell hx 0 rfl; simpa [Enc.num, Enc.str, Enc.flag] using this
        have s1 : w.cell? ⟨g2, off2 + j, none⟩ = some (Value.int .i64 y) := by have := hr2.out.cell hy 0 rfl; simpa [Enc.num, Enc.str, Enc.flag] using this
        have hj0 : (0 : Int) ≤ (j : Int) := by omega
        have hj1 : (j : Int) < (n : Int) := by omega
        replace hx := Lib.hid hx
        replace hy := Lib.hid hy
        by_cases hxy : x = y
        · subst hxy
          go_wp2_with fail
          go_quiet (fail)
          go_wp2_with fail
          go_roundg (n - (j + 1))
          case measure => have := hk.out; omega
          case rel =>
            refine ⟨j + 1, _, by have := hk.out; omega, by go_num, ?_, by first | rfl | exact World.drewN_drewN ..⟩
            show _ = _
            rw [List.take_add_one, List.take_add_one, he.out, hx.out, hy.out]
        · have hb1 : (x != y) = true := by rw [bne_iff_ne]; exact hxy
          have hne2 : Hid (¬ xs = ys) := fun e => hxy (by have h1 := hx.out; have h2 := hy.out; rw [e, h2] at h1; injection h1 with h1; exact h1.symm)
          go_wp2_with fail
          go_quiet (fail)
          go_wp2_with fail
          go_ret
          exact ⟨by rw [decide_eq_false hne2.out]; rfl, _, by first | rfl | exact World.drewN_drewN ..⟩
      · go_wp2_with fail
        go_ret
        refine ⟨?_, _, rfl⟩
        have : xs = ys := by
          have h := he.out
          have h1 := hn.out
          have h2 := hl'.out
          rwa [List.take_of_length_le (by omega), List.take_of_length_le (by omega)] at h
        rw [decide_eq_true this]
        rfl
  · have hne : ((xs.length : Int) != (ys.length : Int)) = true := by rw [bne_iff_ne]; omega
    have hne2 : Hid (¬ xs = ys) := fun e => hl (by rw [e])
    clear h1 h2
    go_enter Try.func13, Try.ntmps13
    go_wp2_with fail
    go_ret
    exact ⟨by rw [decide_eq_false hne2.out]; rfl, 0, rfl⟩
end Go.Proofs.Ytbifajiigpalhaa

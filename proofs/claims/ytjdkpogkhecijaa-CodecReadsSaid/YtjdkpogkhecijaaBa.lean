import Derived.Test.YtjdkpogkhecijaaMd
import Derived.IntWalk
import Derived.WalkSpells
import Derived.Test.YtjdkpogkhecijaaProg
import Derived.Test.YtjdkpogkhecijaaLs
import Derived.Outline
import Derived.StillTailTactics
import Derived.Deep.DeepCutAuto
import Derived.Deep.CutBlock
import Derived.Deep.LoopGhost
import Derived.Deep.QuietTactic
import Derived.BigQuiet
import Derived.Deep.RegionHeld3
import Derived.Deep.RegionLaw
set_option linter.unusedVariables false
set_option linter.unusedSimpArgs false
namespace Go.Proofs.Ytjdkpogkhecijaa
open Go.RowKit
theorem infoc43 : (Try.prog.info? 5).map (fun i => (i.zero, i.size, i.bytes)) = some (some (.int .u8 0), 1, 1) := by kernel_rfl
/-- slices.Clone. -/
theorem clone43 (v : Value) (xs : List (Int)) (w w0 : World) (R : List HP) (H : Hs w0 w R) (hr : RdL (U8) w v xs) (hb : xs.length * 1 ≤ 140737488355328) :
    Calls Try.prog 43 #[v] w fun e w' => ∃ A c, e = .returned (.slice A xs.length c) ∧ Hs w0 w' (Ls (U8) 5 (.slice A xs.length c) xs :: R) := by
  obtain ⟨A, c, rfl⟩ := hr.form
  have hnil := fun w => Lib.run_eql_slice_nil (P := Try.prog) w 22 5 A xs.length c 0 0 Try.underlying22
  cases A with
  | none =>
    have hx : xs = [] := by
      obtain ⟨_, _, he, _, _, _, h4, _⟩ := hr
      injection he with ha _ _
      exact List.eq_nil_of_length_eq_zero (h4 ha.symm).1
    subst hx
    simp only [Option.isNone_none, List.length_nil] at hnil ⊢
    go_enter Try.func43, Try.ntmps43
    go_wp2_with fail
    go_ret
    exact ⟨none, 0, rfl, H.ls_nil _ _⟩
  | some a =>
    simp only [Option.isNone_some] at hnil
    go_enter Try.func43, Try.ntmps43
    go_wp2_with (at_builtin; refine wpList_appendL rfl (.tmp 5) (.tmp 6) 22 rfl 5 _ 1 1 Try.underlying22 infoc43 rfl (by decide) (by decide) rfl rfl _ rfl (H.ls_lit (U8) 5 [] #[] rfl 0 rfl (by omega)) (hr.alloc _) (by simpa using hb) ?_)
    intro A c' w1 H1
    go_wp2_with fail
    go_ret
    exact ⟨_, _, rfl, by simpa using H1⟩
/-- Are two lists the same? (one-cell elements) -/
theorem eqlist12 (v1 v2 : Value) (xs ys : List (Int)) (w : World) (h1 : RdL (U8) w v1 xs) (h2 : RdL (U8) w v2 ys) :
    Calls Try.prog 12 #[v1, v2] w fun e w' => e = .returned (.bool (decide (xs = ys))) ∧ ∃ n, w' = w.drewN n := by
  obtain ⟨A, c, rfl⟩ := h1.form
  obtain ⟨B, d, rfl⟩ := h2.form
  obtain ⟨_, ha, hb⟩ := h1.caps
  obtain ⟨_, hc, hd⟩ := h2.caps
  by_cases hl : xs.length = ys.length
  · have hne : ((xs.length : Int) != (ys.length : Int)) = false := by rw [hl]; simp
    clear hne
    generalize hn : xs.length = n at *
    generalize hm : ys.length = m at *
    subst hl
    have hr1 := Lib.hid h1
    have hr2 := Lib.hid h2
    replace hn := Lib.hid hn
    have hl' := Lib.hid hm
    clear h1 h2 hm
    go_enter Try.func12, Try.ntmps12
    go_wp2_with fail
    go_loopg [5] n (fun k i wr => ∃ (j q : Nat), k + j = n ∧ i = .int .i64 j ∧ Hid (xs.take j = ys.take j) ∧ wr = w.drewN q)
    case atStart => exact ⟨0, 0, rfl, rfl, rfl, rfl⟩
    case round =>
      obtain ⟨j, q, hk, rfl, he, rfl⟩ := hrel
      have hjn : j ≤ n := by omega
      replace hk := Lib.hid hk
      rcases Nat.lt_or_ge j n with hj | hj
      · obtain ⟨g, off, rfl⟩ := hr1.out.some_ (by have := hn.out; omega)
        obtain ⟨g2, off2, rfl⟩ := hr2.out.some_ (by have := hl'.out; omega)
        obtain ⟨x, hx⟩ : ∃ x, xs[j]? = some x := ⟨_, List.getElem?_eq_getElem (by have := hn.out; omega)⟩
        obtain ⟨y, hy⟩ : ∃ y, ys[j]? = some y := ⟨_, List.getElem?_eq_getElem (by have := hl'.out; omega)⟩
        have s0 : w.cell? ⟨g, off + j, none⟩ = some (Value.int .u8 x) := by have := hr1.out.cell hx 0 rfl; simpa [Enc.num, Enc.str, Enc.flag] using this
        have s1 : w.cell? ⟨g2, off2 + j, none⟩ = some (Value.int .u8 y) := by have := hr2.out.cell hy 0 rfl; simpa [Enc.num, Enc.str, Enc.flag] using this
        have hj0 : (0 : Int) ≤ (j : Int) := by omega
        have hj1 : (j : Int) < (n : Int) := by omega
        replace hx := Lib.hid hx
        replace hy := Lib.hid hy
        by_cases hxy : x = y
        · subst hxy
          go_wp2_with fail
          go_quiet (fail)
          go_wp2_with fail
          go_roundg (n - (j + 1))
          case measure => have := hk.out; omega
          case rel =>
            refine ⟨j + 1, _, by have := hk.out; omega, by go_num, ?_, by first | rfl | exact World.drewN_drewN ..⟩
            show _ = _
            rw [List.take_add_one, List.take_add_one, he.out, hx.out, hy.out]
        · have hb1 : (x != y) = true := by rw [bne_iff_ne]; exact hxy
          have hne2 : Hid (¬ xs = ys) := fun e => hxy (by have h1 := hx.out; have h2 := hy.out; rw [e, h2] at h1; injection h1 with h1; exact h1.symm)
          go_wp2_with fail
          go_quiet (fail)
          go_wp2_with fail
          go_ret
          exact ⟨by rw [decide_eq_false hne2.out]; rfl, _, by first | rfl | exact World.drewN_drewN ..⟩
      · go_wp2_with fail
        go_ret
        refine ⟨?_, _, rfl⟩
        have : xs = ys := by
          have h := he.out
          have h1 := hn.out
          have h2 := hl'.out
          rwa [List.take_of_length_le (by omega), List.take_of_length_le (by omega)] at h
        rw [decide_eq_true this]
        rfl
  · have hne : ((xs.length : Int) != (ys.length : Int)) = true := by rw [bne_iff_ne]; omega
    have hne2 : Hid (¬ xs = ys) := fun e => hl (by rw [e])
    clear h1 h2
    go_enter Try.func12, Try.ntmps12
    go_wp2_with fail
    go_ret
    exact ⟨by rw [decide_eq_false hne2.out]; rfl, 0, rfl⟩
/-- leathelp.Place. -/
theorem place18 (n m : Int) (w : World) (hm : 0 < m) (hm2 : m ≤ 1000000) : Calls Try.prog 18 #[.int .i64 n, .int .i64 m] w fun e w' => e = .returned (.int .i64 (n % m)) ∧ w = w' := by
  have h1 := Int.tmod_lt_of_pos n hm
  have h2 := Int.lt_tmod_of_pos n hm
  have hz : m ≠ 0 := by omega
  have hz0 : (m == 0) = false := by rw [beq_eq_false_iff_ne]; exact hz
  rcases Int.lt_or_le (n.tmod m) 0 with h | h
  · have e1 := Lib.hid (tmod_up n m hm h)
    go_enter Try.func18, Try.ntmps18
    go_wp2_with fail
    go_ret
    rw [← e1.out]
    exact ⟨rfl, rfl⟩
  · have e1 := Lib.hid (tmod_in n m hm h)
    go_enter Try.func18, Try.ntmps18
    go_wp2_with fail
    go_ret
    rw [← e1.out]
    exact ⟨rfl, rfl⟩
end Go.Proofs.Ytjdkpogkhecijaa

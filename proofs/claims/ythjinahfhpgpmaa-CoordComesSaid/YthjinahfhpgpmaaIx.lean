import Derived.Test.YthjinahfhpgpmaaMd
import Derived.Test.YthjinahfhpgpmaaProg
import Derived.Test.YthjinahfhpgpmaaLs
import Derived.Outline
import Derived.StillTailTactics
import Derived.Deep.DeepCutAuto
import Derived.Deep.CutBlock
import Derived.Deep.LoopGhost
import Derived.Deep.QuietTactic
import Derived.BigQuiet
import Derived.Deep.RegionHeld3
import Derived.Deep.RegionLaw
set_option linter.unusedVariables false
set_option linter.unusedSimpArgs false
namespace Go.Proofs.Ythjinahfhpgpmaa
open Go.RowKit
/-! ### slices.Index, slices.Contains: one-cell elements -/
set_option maxRecDepth 100000 in
theorem index32 (A : Option Addr) (n c : Nat) (b : Int) (xs : List (Int)) (w : World) (hr : RdL (Enc.num .i64) w (.slice A n c) xs) :
    Calls Try.prog 32 #[.slice A n c, Value.int .i64 b] w fun e w' => ∃ r : Int, e = .returned (.int .i64 r) ∧ decide (0 ≤ r) = xs.contains b ∧ w = w' := by
  have hcap := hr.caps.2
  have hn := Lib.hid hr.caps.1
  replace hr := Lib.hid hr
  go_enter Try.func32, Try.ntmps32
  go_wp2_with fail
  go_loopg [8] n (fun k i wr => ∃ (j : Nat), k + j = n ∧ i = .int .i64 j ∧ Hid ((xs.take j).contains b = false) ∧ wr = w)
  case atStart => exact ⟨0, rfl, rfl, by show _ = _; simp, rfl⟩
  case round =>
    obtain ⟨j, hk, rfl, he, rfl⟩ := hrel
    have hjn : j ≤ n := by omega
    replace hk := Lib.hid hk
    rcases Nat.lt_or_ge j n with hj | hj
    · have hj0 : (0 : Int) ≤ (j : Int) := by omega
      have hj1 : (j : Int) < (n : Int) := by omega
      obtain ⟨x, hx⟩ : ∃ x, xs[j]? = some x := ⟨_, List.getElem?_eq_getElem (by have := hn.out; omega)⟩
      obtain ⟨g, off, rfl⟩ := hr.out.some_ (by have := hn.out; omega)
      have s0 : wr.cell? ⟨g, off + j, none⟩ = some (Value.int .i64 x) := by have := hr.out.cell hx 0 rfl; simpa [Enc.num, Enc.flag, Enc.str] using this
      cases hb : (x == b) with
      | true =>
        have hfin : Hid (xs.contains b = true) := by
          show _ = _
          rw [List.contains_iff_mem]
          have : x = b := by simpa using hb
          rw [← this]
          exact List.mem_of_getElem? hx
        have hb' : (b == x) = true := by rw [beq_iff_eq] at hb ⊢; exact hb.symm
        replace hx := Lib.hid hx
        go_wp2_with fail
        go_ret
        exact ⟨_, rfl, by rw [hfin.out]; simp, rfl⟩
      | false =>
        have hstep : Hid ((xs.take (j + 1)).contains b = false) := by
          show _ = _
          rw [List.take_add_one, hx, List.contains_append, he.out]
          rw [beq_eq_false_iff_ne] at hb
          simpa using fun e => hb e.symm
        have hb' : (b == x) = false := by rw [beq_eq_false_iff_ne] at hb ⊢; exact fun e => hb e.symm
        replace hx := Lib.hid hx
        go_wp2_with fail
        go_roundg (n - (j + 1))
        case measure => have := hk.out; omega
        case rel => exact ⟨j + 1, by have := hk.out; omega, by go_num, hstep, rfl⟩
    · have hj1 : decide ((j : Int) < (n : Int)) = false := by rw [decide_eq_false_iff_not]; omega
      have hj2 : decide (j < n) = false := by rw [decide_eq_false_iff_not]; omega
      have hfin : Hid (xs.contains b = false) := by
        have h := he.out
        rwa [List.take_of_length_le (by have := hn.out; omega)] at h
      clear hj
      go_wp2_with fail
      go_ret
      exact ⟨-1, rfl, by rw [hfin.out]; rfl, rfl⟩
theorem contains23 (A : Option Addr) (n c : Nat) (b : Int) (xs : List (Int)) (w : World) (hr : RdL (Enc.num .i64) w (.slice A n c) xs) :
    Calls Try.prog 23 #[.slice A n c, Value.int .i64 b] w fun e w' => e = .returned (.bool (xs.contains b)) ∧ w = w' := by
  go_enter Try.func23, Try.ntmps23
  go_wp2_with fail
  refine (index32 A n c b xs w hr).mono ?_
  rintro e w1 ⟨r, rfl, h, rfl⟩
  replace h := Lib.hid h
  go_wp2_with fail
  go_ret
  exact ⟨by rw [← h.out]; rfl, rfl⟩
end Go.Proofs.Ythjinahfhpgpmaa

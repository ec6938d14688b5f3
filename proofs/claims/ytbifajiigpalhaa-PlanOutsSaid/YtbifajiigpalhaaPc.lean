import Derived.Test.YtbifajiigpalhaaPb
import Derived.IntWalk
import Derived.Test.YtbifajiigpalhaaProg
import Derived.Test.YtbifajiigpalhaaLs
import Derived.Outline
import Derived.StillTailTactics
import Derived.Deep.DeepCutAuto
import Derived.Deep.CutBlock
import Derived.Deep.LoopGhost
import Derived.Deep.QuietTactic
import Derived.BigQuiet
import Derived.Deep.RegionHeld3
import Derived.Deep.RegionLaw
set_option linter.unusedVariables false
set_option linter.unusedSimpArgs false
namespace Go.Proofs.Ytbifajiigpalhaa
open Go.RowKit
def fromOf (Cs : List (Int × Int × Int)) (t : Int) : List Int := chosen (fun x => x.1 == t) Cs
def toOf (Cs : List (Int × Int × Int)) (t : Int) : List Int := chosen (fun x => x.2.1 == t) Cs
def group (k : Int) : Int := wrap64 (IntKind.u64.wrap (IntKind.u64.wrap k * 11400714819323198485) / 1152921504606846976)
def partB (g p : Int) : Bool := decide (g < 0) || decide (16 ≤ g) || decide (p < 1) || decide (4 < p)
def partG (g p : Int) : Int := if partB g p then 0 else g * p / 16
section
variable (tv cv : Value) (Cs : List (Int × Int × Int)) (t : Int) (w w0 : World) (R : List HP) (H : Hs w0 w R) (hr : ∀ w', Hs w0 w' R → RdL EChn w' cv Cs) (hl : Cs.length ≤ 1000000)
include H hr hl
set_option maxRecDepth 100000 in
theorem from14 : Calls Try.prog 14 #[.agg #[tv, cv], .int .i64 t] w fun e w' => ∃ A c, e = .returned (.slice A (fromOf Cs t).length c) ∧ Hs w0 w' (Ls (Enc.num .i64) 3 (.slice A (fromOf Cs t).length c) (fromOf Cs t) :: R) := by
  obtain ⟨Aq, cq, hv⟩ := (hr w H).form
  subst hv
  have K := (H.alloc (.cells #[tv, .slice Aq Cs.length cq] 30)).alloc (.cells #[.int .i64 t] 3)
  rw [show (w.alloc (.cells #[tv, .slice Aq Cs.length cq] 30)).heap.size = w.heap.size + 1 from Array.size_push ..] at K
  replace K := Lib.hid K
  replace hr := Lib.hid hr
  replace hl := Lib.hid hl
  clear H
  go_enter Try.func14, Try.ntmps14
  go_upto_region 1 with (fail)
  generalize World.alloc _ _ = w1 at K ⊢
  generalize w.heap.size + 1 = b at K ⊢
  generalize w.heap.size = bx at K ⊢
  have b1 : w1.cell? ⟨bx, 1, none⟩ = some (.slice Aq Cs.length cq) := K.out.at1.cellOf 1 rfl
  go_wp2_with fail
  refine (chosen34 b t _ Cs w1 w0 _ K.out (fun w' h => hr.out _ h.tail) hl.out).mono ?_
  rintro e w2 ⟨A, c, rfl, K2⟩
  replace K2 := Lib.hid K2.at1.tail.at1.tail
  go_wp2_with fail
  go_ret
  exact ⟨A, c, rfl, K2.out⟩
set_option maxRecDepth 100000 in
theorem to16 : Calls Try.prog 16 #[.agg #[tv, cv], .int .i64 t] w fun e w' => ∃ A c, e = .returned (.slice A (toOf Cs t).length c) ∧ Hs w0 w' (Ls (Enc.num .i64) 3 (.slice A (toOf Cs t).length c) (toOf Cs t) :: R) := by
  obtain ⟨Aq, cq, hv⟩ := (hr w H).form
  subst hv
  have K := (H.alloc (.cells #[tv, .slice Aq Cs.length cq] 30)).alloc (.cells #[.int .i64 t] 3)
  rw [show (w.alloc (.cells #[tv, .slice Aq Cs.length cq] 30)).heap.size = w.heap.size + 1 from Array.size_push ..] at K
  replace K := Lib.hid K
  replace hr := Lib.hid hr
  replace hl := Lib.hid hl
  clear H
  go_enter Try.func16, Try.ntmps16
  go_upto_region 1 with (fail)
  generalize World.alloc _ _ = w1 at K ⊢
  generalize w.heap.size + 1 = b at K ⊢
  generalize w.heap.size = bx at K ⊢
  have b1 : w1.cell? ⟨bx, 1, none⟩ = some (.slice Aq Cs.length cq) := K.out.at1.cellOf 1 rfl
  go_wp2_with fail
  refine (chosen35 b t _ Cs w1 w0 _ K.out (fun w' h => hr.out _ h.tail) hl.out).mono ?_
  rintro e w2 ⟨A, c, rfl, K2⟩
  replace K2 := Lib.hid K2.at1.tail.at1.tail
  go_wp2_with fail
  go_ret
  exact ⟨A, c, rfl, K2.out⟩
end
set_option maxRecDepth 100000 in
theorem group22 (k : Int) (w : World) : Calls Try.prog 22 #[.int .i64 k] w fun e w' => e = .returned (.int .i64 (group k)) ∧ w = w' := by
  go_enter Try.func22, Try.ntmps22
  go_wp2_with fail
  go_ret
  exact ⟨rfl, rfl⟩
set_option maxRecDepth 100000 in
theorem group23 (k : Int) (w : World) : Calls Try.prog 23 #[.int .i64 k] w fun e w' => e = .returned (.int .i64 (group k)) ∧ w = w' := by
  go_enter Try.func23, Try.ntmps23
  go_wp2_with fail
  go_ret
  exact ⟨rfl, rfl⟩
theorem group_in (k : Int) : 0 ≤ group k ∧ group k < 16 := by
  unfold group
  have h : 0 ≤ IntKind.u64.wrap (IntKind.u64.wrap k * 11400714819323198485) ∧ IntKind.u64.wrap (IntKind.u64.wrap k * 11400714819323198485) < 18446744073709551616 := by
    show 0 ≤ _ % _ ∧ _ % _ < _
    constructor
    · exact Int.emod_nonneg _ (by decide)
    · exact Int.emod_lt_of_pos _ (by decide)
  generalize IntKind.u64.wrap (IntKind.u64.wrap k * 11400714819323198485) = x at h
  have h2 : 0 ≤ x / 1152921504606846976 ∧ x / 1152921504606846976 < 16 := by omega
  rw [show wrap64 (x / 1152921504606846976) = x / 1152921504606846976 from IntWalk.wrap64_in _ (by omega)]
  exact h2
set_option maxRecDepth 100000 in
theorem part24 (g p : Int) (w : World) : Calls Try.prog 24 #[.int .i64 g, .int .i64 p] w fun e w' => e = .returned (.int .i64 (partG g p)) ∧ w = w' := by
  have no : Hid (partB g p = true → partG g p = 0) := fun h => by unfold partG; rw [h]; rfl
  have yes : Hid (partB g p = false → partG g p = g * p / 16) := fun h => by unfold partG; rw [h]; rfl
  rcases (show g < 0 ∨ (0 ≤ g ∧ 16 ≤ g) ∨ (0 ≤ g ∧ g < 16) by omega) with h | ⟨h0, h1⟩ | ⟨h0, h1⟩
  · have e : partB g p = true := by unfold partB; rw [decide_eq_true h]; rfl
    replace no := Lib.hid (no.out e)
    clear e yes
    go_enter Try.func24, Try.ntmps24
    go_wp2_with fail
    go_ret
    exact ⟨by rw [no.out]; rfl, rfl⟩
  · have e : partB g p = true := by unfold partB; rw [decide_eq_true h1, Bool.or_true]; rfl
    replace no := Lib.hid (no.out e)
    clear e yes
    have hd : decide (g < 0) = false := by rw [decide_eq_false_iff_not]; omega
    go_enter Try.func24, Try.ntmps24
    go_wp2_with fail
    go_ret
    exact ⟨by rw [no.out]; rfl, rfl⟩
  · have hd : decide (g < 0) = false := by rw [decide_eq_false_iff_not]; omega
    have hd2 : decide (16 ≤ g) = false := by rw [decide_eq_false_iff_not]; omega
    rcases (show p < 1 ∨ (1 ≤ p ∧ 4 < p) ∨ (1 ≤ p ∧ p ≤ 4) by omega) with h | ⟨h2, h3⟩ | ⟨h2, h3⟩
    · have e : partB g p = true := by unfold partB; rw [decide_eq_true h, Bool.or_true]; rfl
      replace no := Lib.hid (no.out e)
      clear e yes
      go_enter Try.func24, Try.ntmps24
      go_wp2_with fail
      go_ret
      exact ⟨by rw [no.out]; rfl, rfl⟩
    · have e : partB g p = true := by unfold partB; rw [decide_eq_true h3, Bool.or_true]
      replace no := Lib.hid (no.out e)
      clear e yes
      have hd3 : decide (p < 1) = false := by rw [decide_eq_false_iff_not]; omega
      go_enter Try.func24, Try.ntmps24
      go_wp2_with fail
      go_ret
      exact ⟨by rw [no.out]; rfl, rfl⟩
    · have hd3 : decide (p < 1) = false := by rw [decide_eq_false_iff_not]; omega
      have hd4 : decide (4 < p) = false := by rw [decide_eq_false_iff_not]; omega
      have e : partB g p = false := by unfold partB; rw [hd, hd2, hd3, hd4]; rfl
      replace yes := Lib.hid (yes.out e)
      clear e no
      obtain ⟨q, hq⟩ : ∃ q, g * p = q := ⟨_, rfl⟩
      have hq0 : 0 ≤ q ∧ q ≤ 60 := by
        rcases (show p = 1 ∨ p = 2 ∨ p = 3 ∨ p = 4 by omega) with rfl | rfl | rfl | rfl <;> omega
      have hq1 := hq0.1
      have hq2 := hq0.2
      have hw : IntKind.i64.wrap (g * p) = q := by rw [hq]; exact IntWalk.i64_in _ (by omega)
      rw [hq] at yes
      clear hq0
      replace hq := Lib.hid hq
      go_enter Try.func24, Try.ntmps24
      go_wp2_with fail
      go_ret
      first | exact ⟨by rw [yes.out]; rfl, rfl⟩ | done
set_option maxRecDepth 100000 in
theorem part25 (g p : Int) (w : World) : Calls Try.prog 25 #[.int .i64 g, .int .i64 p] w fun e w' => e = .returned (.int .i64 (partG g p)) ∧ w = w' := by
  have no : Hid (partB g p = true → partG g p = 0) := fun h => by unfold partG; rw [h]; rfl
  have yes : Hid (partB g p = false → partG g p = g * p / 16) := fun h => by unfold partG; rw [h]; rfl
  rcases (show g < 0 ∨ (0 ≤ g ∧ 16 ≤ g) ∨ (0 ≤ g ∧ g < 16) by omega) with h | ⟨h0, h1⟩ | ⟨h0, h1⟩
  · have e : partB g p = true := by unfold partB; rw [decide_eq_true h]; rfl
    replace no := Lib.hid (no.out e)
    clear e yes
    go_enter Try.func25, Try.ntmps25
    go_wp2_with fail
    go_ret
    exact ⟨by rw [no.out]; rfl, rfl⟩
  · have e : partB g p = true := by unfold partB; rw [decide_eq_true h1, Bool.or_true]; rfl
    replace no := Lib.hid (no.out e)
    clear e yes
    have hd : decide (g < 0) = false := by rw [decide_eq_false_iff_not]; omega
    go_enter Try.func25, Try.ntmps25
    go_wp2_with fail
    go_ret
    exact ⟨by rw [no.out]; rfl, rfl⟩
  · have hd : decide (g < 0) = false := by rw [decide_eq_false_iff_not]; omega
    have hd2 : decide (16 ≤ g) = false := by rw [decide_eq_false_iff_not]; omega
    rcases (show p < 1 ∨ (1 ≤ p ∧ 4 < p) ∨ (1 ≤ p ∧ p ≤ 4) by omega) with h | ⟨h2, h3⟩ | ⟨h2, h3⟩
    · have e : partB g p = true := by unfold partB; rw [decide_eq_true h, Bool.or_true]; rfl
      replace no := Lib.hid (no.out e)
      clear e yes
      go_enter Try.func25, Try.ntmps25
      go_wp2_with fail
      go_ret
      exact ⟨by rw [no.out]; rfl, rfl⟩
    · have e : partB g p = true := by unfold partB; rw [decide_eq_true h3, Bool.or_true]
      replace no := Lib.hid (no.out e)
      clear e yes
      have hd3 : decide (p < 1) = false := by rw [decide_eq_false_iff_not]; omega
      go_enter Try.func25, Try.ntmps25
      go_wp2_with fail
      go_ret
      exact ⟨by rw [no.out]; rfl, rfl⟩
    · have hd3 : decide (p < 1) = false := by rw [decide_eq_false_iff_not]; omega
      have hd4 : decide (4 < p) = false := by rw [decide_eq_false_iff_not]; omega
      have e : partB g p = false := by unfold partB; rw [hd, hd2, hd3, hd4]; rfl
      replace yes := Lib.hid (yes.out e)
      clear e no
      obtain ⟨q, hq⟩ : ∃ q, g * p = q := ⟨_, rfl⟩
      have hq0 : 0 ≤ q ∧ q ≤ 60 := by
        rcases (show p = 1 ∨ p = 2 ∨ p = 3 ∨ p = 4 by omega) with rfl | rfl | rfl | rfl <;> omega
      have hq1 := hq0.1
      have hq2 := hq0.2
      have hw : IntKind.i64.wrap (g * p) = q := by rw [hq]; exact IntWalk.i64_in _ (by omega)
      rw [hq] at yes
      clear hq0
      replace hq := Lib.hid hq
      go_enter Try.func25, Try.ntmps25
      go_wp2_with fail
      go_ret
      first | exact ⟨by rw [yes.out]; rfl, rfl⟩ | done
end Go.Proofs.Ytbifajiigpalhaa

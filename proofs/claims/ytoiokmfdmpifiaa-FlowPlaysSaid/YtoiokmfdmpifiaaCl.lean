import Derived.Test.YtoiokmfdmpifiaaProg
import Derived.Test.YtoiokmfdmpifiaaLs
import Derived.Outline
import Derived.StillTailTactics
import Derived.Deep.DeepCutAuto
import Derived.Deep.CutBlock
import Derived.Deep.LoopGhost
import Derived.Deep.QuietTactic
import Derived.BigQuiet
import Derived.Deep.RegionHeld3
import Derived.Deep.RegionLaw
set_option linter.unusedVariables false
set_option linter.unusedSimpArgs false
namespace Go.Proofs.Ytoiokmfdmpifiaa
open Go.RowKit
theorem infoc75 : (Try.prog.info? 3).map (fun i => (i.zero, i.size, i.bytes)) = some (some (.int .i64 0), 1, 8) := by kernel_rfl
/-- slices.Clone. -/
theorem clone75 (v : Value) (xs : List (Int)) (w w0 : World) (R : List HP) (H : Hs w0 w R) (hr : RdL (Enc.num .i64) w v xs) (hb : xs.length * 8 ≤ 140737488355328) :
    Calls Try.prog 75 #[v] w fun e w' => ∃ A c, e = .returned (.slice A xs.length c) ∧ Hs w0 w' (Ls (Enc.num .i64) 3 (.slice A xs.length c) xs :: R) := by
  obtain ⟨A, c, rfl⟩ := hr.form
  have hnil := fun w => Lib.run_eql_slice_nil (P := Try.prog) w 48 3 A xs.length c 0 0 Try.underlying48
  cases A with
  | none =>
    have hx : xs = [] := by
      obtain ⟨_, _, he, _, _, _, h4, _⟩ := hr
      injection he with ha _ _
      exact List.eq_nil_of_length_eq_zero (h4 ha.symm).1
    subst hx
    simp only [Option.isNone_none, List.length_nil] at hnil ⊢
    go_enter Try.func75, Try.ntmps75
    go_wp2_with fail
    go_ret
    exact ⟨none, 0, rfl, H.ls_nil _ _⟩
  | some a =>
    simp only [Option.isNone_some] at hnil
    go_enter Try.func75, Try.ntmps75
    go_wp2_with (at_builtin; refine wpList_appendL rfl (.tmp 5) (.tmp 6) 48 rfl 3 _ 1 8 Try.underlying48 infoc75 rfl (by decide) (by decide) rfl rfl _ rfl (H.ls_lit (Enc.num .i64) 3 [] #[] rfl 0 rfl (by omega)) (hr.alloc _) (by simpa using hb) ?_)
    intro A c' w1 H1
    go_wp2_with fail
    go_ret
    exact ⟨_, _, rfl, by simpa using H1⟩
theorem infoc76 : (Try.prog.info? 78).map (fun i => (i.zero, i.size, i.bytes)) = some (some (.agg #[.int .u64 0, .int .u64 0, .int .i64 0]), 3, 24) := by kernel_rfl
/-- slices.Clone. -/
theorem clone76 (v : Value) (xs : List (Int × Int × Int)) (w w0 : World) (R : List HP) (H : Hs w0 w R) (hr : RdL ((Enc.num .u64).pair ((Enc.num .u64).pair (Enc.num .i64))) w v xs) (hb : xs.length * 24 ≤ 140737488355328) :
    Calls Try.prog 76 #[v] w fun e w' => ∃ A c, e = .returned (.slice A xs.length c) ∧ Hs w0 w' (Ls ((Enc.num .u64).pair ((Enc.num .u64).pair (Enc.num .i64))) 78 (.slice A xs.length c) xs :: R) := by
  obtain ⟨A, c, rfl⟩ := hr.form
  have hnil := fun w => Lib.run_eql_slice_nil (P := Try.prog) w 88 78 A xs.length c 0 0 Try.underlying88
  cases A with
  | none =>
    have hx : xs = [] := by
      obtain ⟨_, _, he, _, _, _, h4, _⟩ := hr
      injection he with ha _ _
      exact List.eq_nil_of_length_eq_zero (h4 ha.symm).1
    subst hx
    simp only [Option.isNone_none, List.length_nil] at hnil ⊢
    go_enter Try.func76, Try.ntmps76
    go_wp2_with fail
    go_ret
    exact ⟨none, 0, rfl, H.ls_nil _ _⟩
  | some a =>
    simp only [Option.isNone_some] at hnil
    go_enter Try.func76, Try.ntmps76
    go_wp2_with (at_builtin; refine wpList_appendL rfl (.tmp 5) (.tmp 6) 88 rfl 78 _ 3 24 Try.underlying88 infoc76 rfl (by decide) (by decide) rfl rfl _ rfl (H.ls_lit ((Enc.num .u64).pair ((Enc.num .u64).pair (Enc.num .i64))) 78 [] #[] rfl 0 rfl (by omega)) (hr.alloc _) (by simpa using hb) ?_)
    intro A c' w1 H1
    go_wp2_with fail
    go_ret
    exact ⟨_, _, rfl, by simpa using H1⟩
end Go.Proofs.Ytoiokmfdmpifiaa

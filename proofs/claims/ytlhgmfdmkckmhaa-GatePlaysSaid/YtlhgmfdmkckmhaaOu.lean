import Derived.Test.YtlhgmfdmkckmhaaMd
import Derived.Test.YtlhgmfdmkckmhaaProg
import Derived.Test.YtlhgmfdmkckmhaaLs
import Derived.Outline
import Derived.StillTailTactics
import Derived.Deep.DeepCutAuto
import Derived.Deep.CutBlock
import Derived.Deep.LoopGhost
import Derived.Deep.QuietTactic
import Derived.BigQuiet
import Derived.Deep.RegionHeld3
import Derived.Deep.RegionLaw
set_option linter.unusedVariables false
set_option linter.unusedSimpArgs false
namespace Go.Proofs.Ytlhgmfdmkckmhaa
open Go.RowKit
/-- Two lists of frames with their channels that are one. -/
theorem outs15 (v1 v2 : Value) (xs : List (Int × Fr)) (w : World) (h1 : RdL EOut w v1 xs) (h2 : RdL EOut w v2 xs) :
    Calls Try.prog 15 #[v1, v2] w fun e w' => e = .returned (.bool true) ∧ ∃ n, w' = w.drewN n := by
  obtain ⟨A, c, rfl⟩ := h1.form
  obtain ⟨B, d, rfl⟩ := h2.form
  obtain ⟨_, ha, hb⟩ := h1.caps
  obtain ⟨_, hc, hd⟩ := h2.caps
  generalize hn : xs.length = n at *
  have hr1 := Lib.hid h1
  have hr2 := Lib.hid h2
  replace hn := Lib.hid hn
  clear h1 h2
  go_enter Try.func15, Try.ntmps15
  go_wp2_with fail
  go_loopg [5] n (fun k i wr => ∃ (j q : Nat), k + j = n ∧ i = .int .i64 j ∧ wr = w.drewN q)
  case atStart => exact ⟨0, 0, rfl, rfl, rfl⟩
  case round =>
    obtain ⟨j, q, hk, rfl, rfl⟩ := hrel
    have hjn : j ≤ n := by omega
    replace hk := Lib.hid hk
    rcases Nat.lt_or_ge j n with hj | hj
    · obtain ⟨g, off, rfl⟩ := hr1.out.some_ (by have := hn.out; omega)
      obtain ⟨g2, off2, rfl⟩ := hr2.out.some_ (by have := hn.out; omega)
      obtain ⟨x, hx⟩ : ∃ x, xs[j]? = some x := ⟨_, List.getElem?_eq_getElem (by have := hn.out; omega)⟩
      obtain ⟨ch, k0, ⟨r0, r1, r2⟩, mk, nn, ov⟩ := x
      have s0 : w.cell? ⟨g, off + j * 8, none⟩ = some (.int .i64 ch) := hr1.out.cell hx 0 rfl
      have s1 : w.cell? ⟨g, off + j * 8 + 1, none⟩ = some (.int .i64 k0) := hr1.out.cell hx 1 rfl
      have s2 : w.cell? ⟨g, off + j * 8 + 2, none⟩ = some (.int .i64 r0) := hr1.out.cell hx 2 rfl
      have s3 : w.cell? ⟨g, off + j * 8 + 3, none⟩ = some (.int .i64 r1) := hr1.out.cell hx 3 rfl
      have s4 : w.cell? ⟨g, off + j * 8 + 4, none⟩ = some (.int .i64 r2) := hr1.out.cell hx 4 rfl
      have s5 : w.cell? ⟨g, off + j * 8 + 5, none⟩ = some (.int .i64 mk) := hr1.out.cell hx 5 rfl
      have s6 : w.cell? ⟨g, off + j * 8 + 6, none⟩ = some (.int .u64 nn) := hr1.out.cell hx 6 rfl
      have s7 : w.cell? ⟨g, off + j * 8 + 7, none⟩ = some (.bool ov) := hr1.out.cell hx 7 rfl
      have q0 : w.cell? ⟨g2, off2 + j * 8, none⟩ = some (.int .i64 ch) := hr2.out.cell hx 0 rfl
      have q1 : w.cell? ⟨g2, off2 + j * 8 + 1, none⟩ = some (.int .i64 k0) := hr2.out.cell hx 1 rfl
      have q2 : w.cell? ⟨g2, off2 + j * 8 + 2, none⟩ = some (.int .i64 r0) := hr2.out.cell hx 2 rfl
      have q3 : w.cell? ⟨g2, off2 + j * 8 + 3, none⟩ = some (.int .i64 r1) := hr2.out.cell hx 3 rfl
      have q4 : w.cell? ⟨g2, off2 + j * 8 + 4, none⟩ = some (.int .i64 r2) := hr2.out.cell hx 4 rfl
      have q5 : w.cell? ⟨g2, off2 + j * 8 + 5, none⟩ = some (.int .i64 mk) := hr2.out.cell hx 5 rfl
      have q6 : w.cell? ⟨g2, off2 + j * 8 + 6, none⟩ = some (.int .u64 nn) := hr2.out.cell hx 6 rfl
      have q7 : w.cell? ⟨g2, off2 + j * 8 + 7, none⟩ = some (.bool ov) := hr2.out.cell hx 7 rfl
      have hj0 : (0 : Int) ≤ (j : Int) := by omega
      have hj1 : (j : Int) < (n : Int) := by omega
      replace hx := Lib.hid hx
      go_wp2_with fail
      go_quiet (fail)
      go_wp2_with fail
      go_roundg (n - (j + 1))
      case measure => have := hk.out; omega
      case rel => exact ⟨j + 1, _, by have := hk.out; omega, by go_num, by first | rfl | exact World.drewN_drewN ..⟩
    · go_wp2_with fail
      go_ret
      exact ⟨rfl, _, rfl⟩
end Go.Proofs.Ytlhgmfdmkckmhaa

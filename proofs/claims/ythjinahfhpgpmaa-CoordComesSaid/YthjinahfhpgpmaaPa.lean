import Derived.Test.YthjinahfhpgpmaaIx
import Derived.Test.YthjinahfhpgpmaaProg
import Derived.Test.YthjinahfhpgpmaaLs
import Derived.Outline
import Derived.StillTailTactics
import Derived.Deep.DeepCutAuto
import Derived.Deep.CutBlock
import Derived.Deep.LoopGhost
import Derived.Deep.QuietTactic
import Derived.BigQuiet
import Derived.Deep.RegionHeld3
import Derived.Deep.RegionLaw
set_option linter.unusedVariables false
set_option linter.unusedSimpArgs false
namespace Go.Proofs.Ythjinahfhpgpmaa
open Go.RowKit
/-! ### closures -/
theorem none25 (t : Int) (w : World) : Calls Try.prog 25 #[.int .i64 t] w fun e w' => e = .returned (.bool (nobody t)) ∧ w = w' := by
  go_enter Try.func25, Try.ntmps25
  go_wp2_with fail
  go_ret
  exact ⟨rfl, rfl⟩
theorem clamp22 (n : Int) (w : World) : Calls Try.prog 22 #[.int .i64 n] w fun e w' => e = .returned (.int .i64 (clampC n)) ∧ w = w' := by
  rcases (show n < 1 ∨ (1 ≤ n ∧ 1000 < n) ∨ (1 ≤ n ∧ n ≤ 1000) by omega) with h | ⟨h, h'⟩ | ⟨h, h'⟩
  · have e : Hid (clampC n = 1) := by show _ = _; unfold clampC; omega
    go_enter Try.func22, Try.ntmps22
    go_wp2_with fail
    go_ret
    rw [e.out]
    exact ⟨rfl, rfl⟩
  · have e : Hid (clampC n = 1000) := by show _ = _; unfold clampC; omega
    have h1 : ¬ n < 1 := by omega
    go_enter Try.func22, Try.ntmps22
    go_wp2_with fail
    go_ret
    rw [e.out]
    exact ⟨rfl, rfl⟩
  · have e : Hid (clampC n = n) := by show _ = _; unfold clampC; omega
    have h1 : ¬ n < 1 := by omega
    have h2 : ¬ 1000 < n := by omega
    go_enter Try.func22, Try.ntmps22
    go_wp2_with fail
    go_ret
    rw [e.out]
    exact ⟨rfl, rfl⟩
section
variable (p bt : Nat) (v : Vs) (s : Co) (w w0 : World) (R : List HP)
theorem ready27 (t : Int) (H : Hs w0 w (CoV p v s :: R)) (hb : w.cell? ⟨bt, 0, none⟩ = some (.pointer (some ⟨p, 0, none⟩))) :
    Calls Try.prog 27 #[.int .i64 t, .pointer (some ⟨bt, 0, none⟩)] w fun e w' => e = .returned (.bool (s.ready t)) ∧ w = w' := by
  have k7 : w.cell? ⟨p, 7, none⟩ = some (.map (some v.m1)) := CoV.cell H 7 rfl
  have hl := CoV.look1 H t
  clear H
  go_enter Try.func27, Try.ntmps27
  go_wp2_with fail
  go_ret
  exact ⟨rfl, rfl⟩
theorem acked29 (t : Int) (H : Hs w0 w (CoV p v s :: R)) (hb : w.cell? ⟨bt, 0, none⟩ = some (.pointer (some ⟨p, 0, none⟩))) :
    Calls Try.prog 29 #[.int .i64 t, .pointer (some ⟨bt, 0, none⟩)] w fun e w' => e = .returned (.bool (s.acked t)) ∧ w = w' := by
  have k7 : w.cell? ⟨p, 8, none⟩ = some (.map (some v.m2)) := CoV.cell H 8 rfl
  have hl := CoV.look2 H t
  clear H
  go_enter Try.func29, Try.ntmps29
  go_wp2_with fail
  go_ret
  exact ⟨rfl, rfl⟩
theorem committed28 (t : Int) (H : Hs w0 w (CoV p v s :: R)) :
    Calls Try.prog 28 #[.pointer (some ⟨p, 0, none⟩), .int .i64 t] w fun e w' => e = .returned (.bool (s.committed t)) ∧ ∃ n, w' = w.drewN n := by
  have k9 : w.cell? ⟨p, 9, none⟩ = some (.map (some v.m3)) := CoV.cell H 9 rfl
  have k11 : w.cell? ⟨p, 11, none⟩ = some (.int .u64 s.durable) := CoV.cell H 11 rfl
  have hl : ∀ n, (Instr.lookup 49 (.map (some v.m3)) (.int .i64 t) false).run Try.prog (w.drewN n) = .ok (.int .u64 (s.done t)) (w.drewN n) := fun n => CoV.look3 (H.drewN n) t
  clear H
  go_enter Try.func28, Try.ntmps28
  go_wp2_with fail
  go_quiet (fail)
  go_wp2_with fail
  go_ret
  exact ⟨rfl, _, rfl⟩
end
end Go.Proofs.Ythjinahfhpgpmaa

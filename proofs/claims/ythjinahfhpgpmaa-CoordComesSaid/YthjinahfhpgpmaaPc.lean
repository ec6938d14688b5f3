import Derived.Test.YthjinahfhpgpmaaPb
import Derived.Test.YthjinahfhpgpmaaProg
import Derived.Test.YthjinahfhpgpmaaLs
import Derived.Outline
import Derived.StillTailTactics
import Derived.Deep.DeepCutAuto
import Derived.Deep.CutBlock
import Derived.Deep.LoopGhost
import Derived.Deep.QuietTactic
import Derived.BigQuiet
import Derived.Deep.RegionHeld3
import Derived.Deep.RegionLaw
set_option linter.unusedVariables false
set_option linter.unusedSimpArgs false
namespace Go.Proofs.Ythjinahfhpgpmaa
open Go.RowKit
section
variable (p : Nat) (v : Vs) (s : Co) (w w0 : World) (R : List HP) (H : Hs w0 w (CoV p v s :: R))
theorem all33 (bt m : Nat) (x : Int) (b : Bool) (hb : w.cell? ⟨bt, 0, none⟩ = some (.map (some m))) (hl : (Instr.lookup 48 (.map (some m)) (.int .i64 x) false).run Try.prog w = .ok (.bool b) w) :
    Calls Try.prog 33 #[.int .i64 x, .pointer (some ⟨bt, 0, none⟩)] w fun e w' => e = .returned (.bool (!b)) ∧ ∃ n, w' = w.drewN n := by
  go_enter Try.func33, Try.ntmps33
  go_wp2_with fail
  go_ret
  exact ⟨rfl, 0, rfl⟩
include H
theorem all26 (m : Nat) (f : Int → Bool) (hm : ∀ w' R', Hs w0 w' (CoV p v s :: R') → ∀ x, (Instr.lookup 48 (.map (some m)) (.int .i64 x) false).run Try.prog w' = .ok (.bool (f x)) w') (hlen : s.tasks.length ≤ 1000) :
    Calls Try.prog 26 #[.pointer (some ⟨p, 0, none⟩), .map (some m)] w fun e w' => e = .returned (.bool (s.all f)) ∧ Hs w0 w' (CoV p v s :: R) := by
  obtain ⟨bt, hbt⟩ : ∃ bt, bt = w.heap.size := ⟨_, rfl⟩
  have H1 := H.alloc (.cells #[.map (some m)] 48)
  obtain ⟨w1, hw1⟩ : ∃ w1, w1 = w.alloc (.cells #[.map (some m)] 48) := ⟨_, rfl⟩
  rw [← hbt, ← hw1] at H1
  have k0 : w1.cell? ⟨p, 0, none⟩ = some v.vt := CoV.cell H1.at1 0 rfl
  have hc := Lib.hid (conf_all p bt v s v.vt s.tasks f w1 w0 _ H1 (fun w' h => CoV.tasks h.at1) hlen (fun x w' h => all33 w' bt m x (f x) (h.cellOf 0 rfl) (hm w' _ h.at1 x)))
  replace H1 := Lib.hid H1.at1
  replace hbt := Lib.hid hbt
  replace hw1 := Lib.hid hw1
  clear hm H
  go_enter Try.func26, Try.ntmps26
  go_upto_region 1 with (fail)
  rw [← hw1.out, ← hbt.out]
  go_wp2_with fail
  refine hc.out.mono ?_
  rintro e w2 ⟨rfl, n, rfl⟩
  go_wp2_with fail
  go_ret
  refine ⟨?_, (H1.out.drewN n).at1.tail⟩
  show _ = Ending.returned (Value.bool (s.tasks.all f))
  simp
theorem epoch20 : Calls Try.prog 20 #[.pointer (some ⟨p, 0, none⟩)] w fun e w' => e = .returned (.int .u64 s.epoch) ∧ w = w' := by
  have k := CoV.cell H 4 rfl
  go_enter Try.func20, Try.ntmps20
  go_wp2_with fail
  go_ret
  exact ⟨rfl, rfl⟩
theorem under17 : Calls Try.prog 17 #[.pointer (some ⟨p, 0, none⟩)] w fun e w' => e = .returned (.int .u64 s.under) ∧ w = w' := by
  have k := CoV.cell H 10 rfl
  go_enter Try.func17, Try.ntmps17
  go_wp2_with fail
  go_ret
  exact ⟨rfl, rfl⟩
theorem durable13 : Calls Try.prog 13 #[.pointer (some ⟨p, 0, none⟩)] w fun e w' => e = .returned (.int .u64 s.durable) ∧ w = w' := by
  have k := CoV.cell H 11 rfl
  go_enter Try.func13, Try.ntmps13
  go_wp2_with fail
  go_ret
  exact ⟨rfl, rfl⟩
theorem timeout21 : Calls Try.prog 21 #[.pointer (some ⟨p, 0, none⟩)] w fun e w' => e = .returned (.int .i64 s.limit) ∧ w = w' := by
  have k := CoV.cell H 13 rfl
  go_enter Try.func21, Try.ntmps21
  go_wp2_with fail
  go_ret
  exact ⟨rfl, rfl⟩
theorem set31 (bt : Nat) (x : Int) (hb : w.cell? ⟨bt, 0, none⟩ = some (.pointer (some ⟨p, 0, none⟩))) :
    Calls Try.prog 31 #[.int .i64 x, .pointer (some ⟨bt, 0, none⟩)] w fun e w' => e = .returned (.bool (!s.committed x)) ∧ ∃ n, w' = w.drewN n := by
  have hc := Lib.hid (committed28 p v s w w0 R x H)
  clear H
  go_enter Try.func31, Try.ntmps31
  go_wp2_with fail
  refine hc.out.mono ?_
  rintro e w2 ⟨rfl, n, rfl⟩
  go_wp2_with fail
  go_ret
  exact ⟨rfl, _, rfl⟩
end
end Go.Proofs.Ythjinahfhpgpmaa

import Derived.Test.YtlhgmfdmkckmhaaRc
import Derived.Test.YtlhgmfdmkckmhaaProg
import Derived.Test.YtlhgmfdmkckmhaaLs
import Derived.Outline
import Derived.StillTailTactics
import Derived.Deep.DeepCutAuto
import Derived.Deep.CutBlock
import Derived.Deep.LoopGhost
import Derived.Deep.QuietTactic
import Derived.BigQuiet
import Derived.Deep.RegionHeld3
import Derived.Deep.RegionLaw
set_option linter.unusedVariables false
set_option linter.unusedSimpArgs false
namespace Go.Proofs.Ytlhgmfdmkckmhaa
open Go.RowKit
theorem rd_empty {α : Type} (E : Enc α) (w : World) (a : Addr) : RdL E w (.slice (some a) 0 0) [] := ⟨some a, 0, rfl, Nat.zero_le _, Nat.le_refl _, Nat.zero_le _, (fun h => by cases h), fun h => absurd h (Nat.lt_irrefl 0)⟩
set_option maxRecDepth 100000 in
theorem rnew22 (n : Int) (w w0 : World) (R : List HP) (H : Hs w0 w R) : Calls Try.prog 22 #[.int .i64 n] w fun e w' => ∃ p, e = .returned (.pointer (some ⟨p, 0, none⟩)) ∧ Hs w0 w' (RefP p ((⟨[], 0, 0, false, [], []⟩ : Rf).load [] (min (max n 1) 64).toNat) :: R) := by
  obtain ⟨N, hN⟩ : ∃ N : Nat, min (max n 1) 64 = (N : Int) := ⟨(min (max n 1) 64).toNat, by omega⟩
  have hN1 : N ≤ 64 := by omega
  have hif : (if (64 : Int) < (if n < 1 then 1 else n) then 64 else (if n < 1 then 1 else n)) = (N : Int) := by split <;> split at * <;> omega
  have m1 : ∀ w, (Instr.makeSlice 50 (.int .i64 0) (.int .i64 0)).run Try.prog w = .ok (.slice (some ⟨w.heap.size, 0, none⟩) 0 0) (w.alloc (.cells (madeCells #[.int .i64 0] 0) 2)) := run_make_row' (P := Try.prog) 50 2 (.int .i64 0) 8 Try.underlying50 infoI rfl .i64 .i64 0 (by omega) (by omega)
  rw [hN, Int.toNat_natCast]
  have key : Hid (∀ (W : World) (q : Nat) (a : Addr), Hs w0 W (Blk q (.cells #[.slice none 0 0, .int .u64 0, .int .u64 0, .bool false, .slice none 0 0, .slice none 0 0] 62) :: R) → Calls Try.prog 24 #[.pointer (some ⟨q, 0, none⟩), .slice (some a) 0 0, .int .i64 N] W fun e w' => e = .returned (.tuple #[]) ∧ Hs w0 w' (RefP q ((⟨[], 0, 0, false, [], []⟩ : Rf).load [] N) :: R)) := by
    intro W q a h
    have h2 := RefP.mk_ (r := ⟨[], 0, 0, false, [], []⟩) (((h.ls_nil EOut 46).ls_nil Enc.flag 4).ls_nil (Enc.num .i64) 2).at3
    exact rload24 q _ _ [] N hN1 W w0 R h2 (fun w' _ => rd_empty _ _ _)
  replace hN := Lib.hid hN
  have H1 := Lib.hid H
  clear H
  go_enter Try.func22, Try.ntmps22
  go_upto_region 3 with (fail)
  try rw [hif]
  clear hif
  generalize (if n < 1 then (1 : Int) else n) = z
  go_wp2_with fail
  refine (key.out _ _ _ ((H1.out.alloc _).alloc_ _)).mono ?_
  rintro e w5 ⟨rfl, H6⟩
  go_wp2_with fail
  go_ret
  exact ⟨_, rfl, H6⟩
end Go.Proofs.Ytlhgmfdmkckmhaa

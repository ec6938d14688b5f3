import Derived.Test.YtlhgmfdmkckmhaaPb
import Derived.Laws.MakeOwn
import Derived.Test.YtlhgmfdmkckmhaaProg
import Derived.Test.YtlhgmfdmkckmhaaLs
import Derived.Outline
import Derived.StillTailTactics
import Derived.Deep.DeepCutAuto
import Derived.Deep.CutBlock
import Derived.Deep.LoopGhost
import Derived.Deep.QuietTactic
import Derived.BigQuiet
import Derived.Deep.RegionHeld3
import Derived.Deep.RegionLaw
set_option linter.unusedVariables false
set_option linter.unusedSimpArgs false
namespace Go.Proofs.Ytlhgmfdmkckmhaa
open Go.RowKit
theorem infoO : (Try.prog.info? 46).map (fun i => (i.zero, i.size, i.bytes)) = some (some (.agg #[.int .i64 0, .int .i64 0, .int .i64 0, .int .i64 0, .int .i64 0, .int .i64 0, .int .u64 0, .bool false]), 8, 64) := by kernel_rfl
/-- A frame's value. -/
def frv (f : Fr) : Value := .agg #[.int .i64 f.1, .int .i64 f.2.1.1, .int .i64 f.2.1.2.1, .int .i64 f.2.1.2.2, .int .i64 f.2.2.1, .int .u64 f.2.2.2.1, .bool f.2.2.2.2]
def Gt.fresh (n : Nat) : Gt := ⟨loaded n [], List.replicate n false, List.replicate n false, 0, 0, false, []⟩
def Gt.new (n : Int) : Gt := Gt.fresh (min (max n 1) 64).toNat
set_option maxRecDepth 100000 in
theorem new12 (n : Int) (w w0 : World) (R : List HP) (H : Hs w0 w R) : Calls Try.prog 12 #[.int .i64 n] w fun e w' => ∃ p, e = .returned (.pointer (some ⟨p, 0, none⟩)) ∧ Hs w0 w' (GateP p (Gt.new n) :: R) := by
  obtain ⟨N, hN⟩ : ∃ N : Nat, min (max n 1) 64 = (N : Int) := ⟨(min (max n 1) 64).toNat, by omega⟩
  have hN1 : 1 ≤ N ∧ N ≤ 64 := by omega
  have hnew : Hid (Gt.new n = Gt.fresh N) := by show _ = _; unfold Gt.new; rw [hN]; rfl
  have hif : (if (64 : Int) < (if n < 1 then 1 else n) then 64 else (if n < 1 then 1 else n)) = (N : Int) := by split <;> split at * <;> omega
  have m1 : ∀ w, (Instr.makeSlice 50 (.int .i64 (N : Int)) (.int .i64 (N : Int))).run Try.prog w = .ok (.slice (some ⟨w.heap.size, 0, none⟩) N N) (w.alloc (.cells (madeCells #[.int .i64 0] N) 2)) := run_make_row' (P := Try.prog) 50 2 (.int .i64 0) 8 Try.underlying50 infoI rfl .i64 .i64 N (by omega) (by omega)
  have m2 : ∀ w, (Instr.makeSlice 44 (.int .i64 (N : Int)) (.int .i64 (N : Int))).run Try.prog w = .ok (.slice (some ⟨w.heap.size, 0, none⟩) N N) (w.alloc (.cells (madeCells #[.bool false] N) 4)) := run_make_row' (P := Try.prog) 44 4 (.bool false) 1 Try.underlying44 infoB rfl .i64 .i64 N (by omega) (by omega)
  have hsz : ∀ (w : World) (o : Obj), (w.alloc o).heap.size = w.heap.size + 1 := fun w o => Array.size_push ..
  obtain ⟨s0, hs0⟩ : ∃ s0 : Gt, s0 = ⟨List.replicate N 0, List.replicate N false, List.replicate N false, 0, 0, false, []⟩ := ⟨_, rfl⟩
  have hload : Hid (s0.load [] = Gt.fresh N) := by
    show _ = _
    subst hs0
    simp [Gt.load, Gt.begin, Gt.fresh]
  have key : Hid (∀ (p : Nat) (W : World), Hs w0 W (GateP p s0 :: R) → Calls Try.prog 23 #[.pointer (some ⟨p, 0, none⟩), .slice none 0 0] W fun e w' => e = .returned (.tuple #[]) ∧ Hs w0 w' (GateP p (Gt.fresh N) :: R)) := by
    intro p W h
    have := load23 p s0 (.slice none 0 0) [] W w0 R h (fun w' _ => RdL.nil w')
    rwa [hload.out] at this
  have hmk : Hid (∀ (p : Nat) (W : World) (vm vc vb : Value), Hs w0 W (Blk p (.cells #[vm, vc, vb, .int .u64 0, .int .u64 0, .bool false, .slice none 0 0] 68 (0, 0)) :: Ls (Enc.num .i64) 2 vm (List.replicate N 0) :: Ls Enc.flag 4 vc (List.replicate N false) :: Ls Enc.flag 4 vb (List.replicate N false) :: Ls EOut 46 (.slice none 0 0) [] :: R) → Hs w0 W (GateP p s0 :: R)) := by
    intro p W vm vc vb h
    subst hs0
    exact GateP.mk_ (s := ⟨List.replicate N 0, List.replicate N false, List.replicate N false, 0, 0, false, []⟩) h
  have hN6 : Hid (N ≤ 1000000) := by show _ ≤ _; omega
  clear hs0 hN hload
  replace hnew := hnew
  go_enter Try.func12, Try.ntmps12
  go_upto_region 2 with (fail)
  try rw [hif]
  clear hif
  generalize (if n < 1 then (1 : Int) else n) = z
  go_region_held3 (fun _ => True) (trivial) (fail)
  all_goals
    go_wp2_with fail
    first
      | (refine (key.out _ _ (hmk.out _ _ _ _ _ (by have h := ((((H.ls_nil EOut 46).ls_made (E := Enc.num .i64) 2 0 (.int .i64 0) rfl N hN6.out).ls_made (E := Enc.flag) 4 false (.bool false) rfl N hN6.out).ls_made (E := Enc.flag) 4 false (.bool false) rfl N hN6.out).at1.at2.alloc (.cells #[.slice (some ⟨w.heap.size, 0, none⟩) N N, .slice (some ⟨w.heap.size + 1, 0, none⟩) N N, .slice (some ⟨w.heap.size + 1 + 1, 0, none⟩) N N, .int .u64 0, .int .u64 0, .bool false, .slice none 0 0] 68); simp only [hsz] at h; first | exact h.drew | exact h))).mono ?_)
      | (refine (key.out _ _ (hmk.out _ _ _ _ _ (by have h := ((((H.ls_nil EOut 46).ls_made (E := Enc.num .i64) 2 0 (.int .i64 0) rfl N hN6.out).ls_made (E := Enc.flag) 4 false (.bool false) rfl N hN6.out).ls_made (E := Enc.flag) 4 false (.bool false) rfl N hN6.out).at1.at1.at2.alloc (.cells #[.slice (some ⟨w.heap.size, 0, none⟩) N N, .slice (some ⟨w.heap.size + 1 + 1, 0, none⟩) N N, .slice (some ⟨w.heap.size + 1, 0, none⟩) N N, .int .u64 0, .int .u64 0, .bool false, .slice none 0 0] 68); simp only [hsz] at h; first | exact h.drew | exact h))).mono ?_)
      | (refine (key.out _ _ (hmk.out _ _ _ _ _ (by have h := ((((H.ls_nil EOut 46).ls_made (E := Enc.flag) 4 false (.bool false) rfl N hN6.out).ls_made (E := Enc.num .i64) 2 0 (.int .i64 0) rfl N hN6.out).ls_made (E := Enc.flag) 4 false (.bool false) rfl N hN6.out).at2.at2.alloc (.cells #[.slice (some ⟨w.heap.size + 1, 0, none⟩) N N, .slice (some ⟨w.heap.size, 0, none⟩) N N, .slice (some ⟨w.heap.size + 1 + 1, 0, none⟩) N N, .int .u64 0, .int .u64 0, .bool false, .slice none 0 0] 68); simp only [hsz] at h; first | exact h.drew | exact h))).mono ?_)
      | (refine (key.out _ _ (hmk.out _ _ _ _ _ (by have h := ((((H.ls_nil EOut 46).ls_made (E := Enc.flag) 4 false (.bool false) rfl N hN6.out).ls_made (E := Enc.flag) 4 false (.bool false) rfl N hN6.out).ls_made (E := Enc.num .i64) 2 0 (.int .i64 0) rfl N hN6.out).at1.at2.at2.alloc (.cells #[.slice (some ⟨w.heap.size + 1 + 1, 0, none⟩) N N, .slice (some ⟨w.heap.size, 0, none⟩) N N, .slice (some ⟨w.heap.size + 1, 0, none⟩) N N, .int .u64 0, .int .u64 0, .bool false, .slice none 0 0] 68); simp only [hsz] at h; first | exact h.drew | exact h))).mono ?_)
      | (refine (key.out _ _ (hmk.out _ _ _ _ _ (by have h := ((((H.ls_nil EOut 46).ls_made (E := Enc.flag) 4 false (.bool false) rfl N hN6.out).ls_made (E := Enc.num .i64) 2 0 (.int .i64 0) rfl N hN6.out).ls_made (E := Enc.flag) 4 false (.bool false) rfl N hN6.out).at2.at1.at2.alloc (.cells #[.slice (some ⟨w.heap.size + 1, 0, none⟩) N N, .slice (some ⟨w.heap.size + 1 + 1, 0, none⟩) N N, .slice (some ⟨w.heap.size, 0, none⟩) N N, .int .u64 0, .int .u64 0, .bool false, .slice none 0 0] 68); simp only [hsz] at h; first | exact h.drew | exact h))).mono ?_)
      | (refine (key.out _ _ (hmk.out _ _ _ _ _ (by have h := ((((H.ls_nil EOut 46).ls_made (E := Enc.flag) 4 false (.bool false) rfl N hN6.out).ls_made (E := Enc.flag) 4 false (.bool false) rfl N hN6.out).ls_made (E := Enc.num .i64) 2 0 (.int .i64 0) rfl N hN6.out).at2.at2.at2.alloc (.cells #[.slice (some ⟨w.heap.size + 1 + 1, 0, none⟩) N N, .slice (some ⟨w.heap.size + 1, 0, none⟩) N N, .slice (some ⟨w.heap.size, 0, none⟩) N N, .int .u64 0, .int .u64 0, .bool false, .slice none 0 0] 68); simp only [hsz] at h; first | exact h.drew | exact h))).mono ?_)
    rintro e w5 ⟨rfl, H6⟩
    go_wp2_with fail
    go_ret
    rw [hnew.out]
    exact ⟨_, rfl, H6⟩
end Go.Proofs.Ytlhgmfdmkckmhaa

import Derived.Test.YtbifajiigpalhaaFa
import Derived.IntWalk
import Derived.Test.YtbifajiigpalhaaProg
import Derived.Test.YtbifajiigpalhaaLs
import Derived.Outline
import Derived.StillTailTactics
import Derived.Deep.DeepCutAuto
import Derived.Deep.CutBlock
import Derived.Deep.LoopGhost
import Derived.Deep.QuietTactic
import Derived.BigQuiet
import Derived.Deep.RegionHeld3
import Derived.Deep.RegionLaw
set_option linter.unusedVariables false
set_option linter.unusedSimpArgs false
namespace Go.Proofs.Ytbifajiigpalhaa
open Go.RowKit
set_option maxRecDepth 100000 in
set_option maxHeartbeats 800000 in
theorem plan12 (AT AC AT2 AC2 : Option Addr) (nT nC cT cC cT2 cC2 : Nat) (T : List (Int × Int)) (Cs : List (Int × Int × Int)) (w w0 : World) (R : List HP) (H : Hs w0 w R) (hT : ∀ w', Hs w0 w' R → RdL ETask w' (.slice AT nT cT) T) (hC : ∀ w', Hs w0 w' R → RdL EChn w' (.slice AC nC cC) Cs)
    (hT2 : ∀ w', Hs w0 w' R → RdL ETask w' (.slice AT2 nT cT2) T) (hC2 : ∀ w', Hs w0 w' R → RdL EChn w' (.slice AC2 nC cC2) Cs) :
    Calls Try.prog 12 #[.agg #[.slice AT nT cT, .slice AC nC cC], .agg #[.slice AT2 nT cT2, .slice AC2 nC cC2]] w fun e w' => e = .returned (.bool true) ∧ Hs w0 w' R := by
  have hcT := (hT w H).caps
  have hcC := (hC w H).caps
  have hcT2 := (hT2 w H).caps.2
  have hcC2 := (hC2 w H).caps.2
  obtain ⟨hnT, hcT⟩ := hcT
  obtain ⟨hnC, hcC⟩ := hcC
  have K := (H.alloc (.cells #[.slice AT nT cT, .slice AC nC cC] 30)).alloc (.cells #[.slice AT2 nT cT2, .slice AC2 nC cC2] 30)
  rw [show (w.alloc (.cells #[.slice AT nT cT, .slice AC nC cC] 30)).heap.size = w.heap.size + 1 from Array.size_push ..] at K
  replace K := Lib.hid K
  replace hT := Lib.hid hT
  replace hC := Lib.hid hC
  replace hT2 := Lib.hid hT2
  replace hC2 := Lib.hid hC2
  replace hnT := Lib.hid hnT
  replace hnC := Lib.hid hnC
  clear H
  go_enter Try.func12, Try.ntmps12
  go_upto_region 1 with (fail)
  generalize World.alloc _ _ = w1 at K ⊢
  generalize w.heap.size + 1 = q at K ⊢
  generalize w.heap.size = p at K ⊢
  have p0 : w1.cell? ⟨p, 0, none⟩ = some (.slice AT nT cT) := K.out.at1.cellOf 0 rfl
  have p1 : w1.cell? ⟨p, 1, none⟩ = some (.slice AC nC cC) := K.out.at1.cellOf 1 rfl
  have q0 : w1.cell? ⟨q, 0, none⟩ = some (.slice AT2 nT cT2) := K.out.cellOf 0 rfl
  have q1 : w1.cell? ⟨q, 1, none⟩ = some (.slice AC2 nC cC2) := K.out.cellOf 1 rfl
  go_wp2_with fail
  clear p0 p1 q0 q1
  go_loopg [5] nT (fun g iv wr => ∃ (j : Nat), g + j = nT ∧ iv = .int .i64 j ∧ Hid (Hs w0 wr (Blk q (.cells #[.slice AT2 nT cT2, .slice AC2 nC cC2] 30) :: Blk p (.cells #[.slice AT nT cT, .slice AC nC cC] 30) :: R)))
  case atStart => exact ⟨0, rfl, rfl, K⟩
  case round =>
    clear K
    obtain ⟨j, hg, rfl, K⟩ := hrel
    have hjn : j ≤ nT := by omega
    replace hg := Lib.hid hg
    have p0 : wr.cell? ⟨p, 0, none⟩ = some (.slice AT nT cT) := K.out.at1.cellOf 0 rfl
    have q0 : wr.cell? ⟨q, 0, none⟩ = some (.slice AT2 nT cT2) := K.out.cellOf 0 rfl
    rcases Nat.lt_or_ge j nT with hlt | hlt
    · have hj0 : (0 : Int) ≤ (j : Int) := by omega
      have hj1 : (j : Int) < (nT : Int) := by omega
      have hwj : IntKind.i64.wrap ((j : Int) + 1) = ((j + 1 : Nat) : Int) := by rw [IntWalk.i64_in _ (by omega)]; omega
      obtain ⟨⟨x0, x1⟩, hx⟩ : ∃ x, T[j]? = some x := ⟨_, List.getElem?_eq_getElem (by have := hnT.out; omega)⟩
      obtain ⟨ga, oa, rfl⟩ := (hT.out _ K.out.tail.tail).some_ (by have := hnT.out; omega)
      obtain ⟨gb, ob, rfl⟩ := (hT2.out _ K.out.tail.tail).some_ (by have := hnT.out; omega)
      have a0 : wr.cell? ⟨ga, oa + j * 2, none⟩ = some (.int .i64 x0) := (hT.out _ K.out.tail.tail).cell hx 0 rfl
      have b0 : wr.cell? ⟨gb, ob + j * 2, none⟩ = some (.int .i64 x0) := (hT2.out _ K.out.tail.tail).cell hx 0 rfl
      have a1 : wr.cell? ⟨ga, oa + j * 2 + 1, none⟩ = some (.int .i64 x1) := (hT.out _ K.out.tail.tail).cell hx 1 rfl
      have b1 : wr.cell? ⟨gb, ob + j * 2 + 1, none⟩ = some (.int .i64 x1) := (hT2.out _ K.out.tail.tail).cell hx 1 rfl
      clear hx
      go_upto_region 6 with (fail)
      go_quiet (fail)
      go_wp2_with fail
      go_roundg (nT - (j + 1))
      case measure => have := hg.out; omega
      case rel => exact ⟨j + 1, by have := hg.out; omega, by go_num, Lib.hid (K.out.drewN nq)⟩
    · have hj1 : decide ((j : Int) < (nT : Int)) = false := by rw [decide_eq_false_iff_not]; omega
      have hj2 : decide (j < nT) = false := by rw [decide_eq_false_iff_not]; omega
      clear hlt hjn hg
      go_wp2_with fail
      clear hj1 hj2 p0 q0
      go_loopg [6] nC (fun g iv wr => ∃ (j : Nat), g + j = nC ∧ iv = .int .i64 j ∧ Hid (Hs w0 wr (Blk q (.cells #[.slice AT2 nT cT2, .slice AC2 nC cC2] 30) :: Blk p (.cells #[.slice AT nT cT, .slice AC nC cC] 30) :: R)))
      case atStart => exact ⟨0, rfl, rfl, K⟩
      case round =>
        clear K
        obtain ⟨j, hg, rfl, K⟩ := hrel
        have hjn : j ≤ nC := by omega
        replace hg := Lib.hid hg
        have p1 : wr.cell? ⟨p, 1, none⟩ = some (.slice AC nC cC) := K.out.at1.cellOf 1 rfl
        have q1 : wr.cell? ⟨q, 1, none⟩ = some (.slice AC2 nC cC2) := K.out.cellOf 1 rfl
        rcases Nat.lt_or_ge j nC with hlt | hlt
        · have hj0 : (0 : Int) ≤ (j : Int) := by omega
          have hj1 : (j : Int) < (nC : Int) := by omega
          have hwj : IntKind.i64.wrap ((j : Int) + 1) = ((j + 1 : Nat) : Int) := by rw [IntWalk.i64_in _ (by omega)]; omega
          obtain ⟨⟨x0, x1, x2⟩, hx⟩ : ∃ x, Cs[j]? = some x := ⟨_, List.getElem?_eq_getElem (by have := hnC.out; omega)⟩
          obtain ⟨ga, oa, rfl⟩ := (hC.out _ K.out.tail.tail).some_ (by have := hnC.out; omega)
          obtain ⟨gb, ob, rfl⟩ := (hC2.out _ K.out.tail.tail).some_ (by have := hnC.out; omega)
          have a0 : wr.cell? ⟨ga, oa + j * 3, none⟩ = some (.int .i64 x0) := (hC.out _ K.out.tail.tail).cell hx 0 rfl
          have b0 : wr.cell? ⟨gb, ob + j * 3, none⟩ = some (.int .i64 x0) := (hC2.out _ K.out.tail.tail).cell hx 0 rfl
          have a1 : wr.cell? ⟨ga, oa + j * 3 + 1, none⟩ = some (.int .i64 x1) := (hC.out _ K.out.tail.tail).cell hx 1 rfl
          have b1 : wr.cell? ⟨gb, ob + j * 3 + 1, none⟩ = some (.int .i64 x1) := (hC2.out _ K.out.tail.tail).cell hx 1 rfl
          have a2 : wr.cell? ⟨ga, oa + j * 3 + 2, none⟩ = some (.int .i64 x2) := (hC.out _ K.out.tail.tail).cell hx 2 rfl
          have b2 : wr.cell? ⟨gb, ob + j * 3 + 2, none⟩ = some (.int .i64 x2) := (hC2.out _ K.out.tail.tail).cell hx 2 rfl
          clear hx
          go_upto_region 11 with (fail)
          go_quiet (fail)
          go_wp2_with fail
          go_roundg (nC - (j + 1))
          case measure => have := hg.out; omega
          case rel => exact ⟨j + 1, by have := hg.out; omega, by go_num, Lib.hid (K.out.drewN nq)⟩
        · have hj1 : decide ((j : Int) < (nC : Int)) = false := by rw [decide_eq_false_iff_not]; omega
          have hj2 : decide (j < nC) = false := by rw [decide_eq_false_iff_not]; omega
          clear hlt hjn hg
          go_wp2_with fail
          go_ret
          exact ⟨rfl, K.out.tail.tail⟩
end Go.Proofs.Ytbifajiigpalhaa

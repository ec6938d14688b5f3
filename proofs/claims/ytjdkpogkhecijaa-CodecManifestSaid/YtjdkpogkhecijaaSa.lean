import Derived.Test.YtjdkpogkhecijaaOn
import Derived.IntWalk
import Derived.Test.YtjdkpogkhecijaaProg
import Derived.Test.YtjdkpogkhecijaaLs
import Derived.Outline
import Derived.StillTailTactics
import Derived.Deep.DeepCutAuto
import Derived.Deep.CutBlock
import Derived.Deep.LoopGhost
import Derived.Deep.QuietTactic
import Derived.BigQuiet
import Derived.Deep.RegionHeld3
import Derived.Deep.RegionLaw
set_option linter.unusedVariables false
set_option linter.unusedSimpArgs false
namespace Go.Proofs.Ytjdkpogkhecijaa
open Go.RowKit
set_option maxRecDepth 100000 in
set_option maxHeartbeats 4000000 in
theorem same32 (n ep : Int) (A1 A2 : Option Addr) (N c1 c2 : Nat) (l : List ByteArray) (w w0 : World) (R : List HP) (H : Hs w0 w R) (h1 : ∀ w', Hs w0 w' R → RdL Enc.str w' (.slice A1 N c1) l) (h2 : ∀ w', Hs w0 w' R → RdL Enc.str w' (.slice A2 N c2) l) (hl : l.length ≤ 1000000000) :
    Calls Try.prog 32 #[.agg #[.int .u64 n, .int .u64 ep, .slice A1 N c1], .agg #[.int .u64 n, .int .u64 ep, .slice A2 N c2]] w fun e w' => e = .returned (.bool true) ∧ Hs w0 w' R := by
  have hN := (h1 w H).caps.1
  have hcap1 := (h1 w H).caps.2
  have hcap2 := (h2 w H).caps.2
  have hNb : N ≤ 1000000000 := by omega
  have K := ((H.alloc (.cells #[.int .u64 n, .int .u64 ep, .slice A1 N c1] 62)).alloc (.cells #[.int .u64 n, .int .u64 ep, .slice A2 N c2] 62))
  rw [show (w.alloc (.cells #[.int .u64 n, .int .u64 ep, .slice A1 N c1] 62)).heap.size = w.heap.size + 1 from Array.size_push ..] at K
  have h10 := Lib.hid h1
  have h20 := Lib.hid h2
  replace K := Lib.hid K
  replace hN := Lib.hid hN
  clear H h1 h2 hl
  go_enter Try.func32, Try.ntmps32
  go_upto_region 1 with (fail)
  generalize World.alloc _ _ = w1 at K ⊢
  generalize w.heap.size + 1 = p at K ⊢
  generalize w.heap.size = q at K ⊢
  have p0 : w1.cell? ⟨p, 0, none⟩ = some (.int .u64 n) := K.out.cellOf 0 rfl
  have p1 : w1.cell? ⟨p, 1, none⟩ = some (.int .u64 ep) := K.out.cellOf 1 rfl
  have p2 : w1.cell? ⟨p, 2, none⟩ = some (.slice A2 N c2) := K.out.cellOf 2 rfl
  have q0 : w1.cell? ⟨q, 0, none⟩ = some (.int .u64 n) := K.out.at1.cellOf 0 rfl
  have q1 : w1.cell? ⟨q, 1, none⟩ = some (.int .u64 ep) := K.out.at1.cellOf 1 rfl
  have q2 : w1.cell? ⟨q, 2, none⟩ = some (.slice A1 N c1) := K.out.at1.cellOf 2 rfl
  go_wp2_with fail
  clear p0 p1 p2 q0 q1 q2
  go_loopg [5] N (fun g iv wr => ∃ i : Nat, g + i = N ∧ iv = .int .i64 i ∧ Hid (Hs w0 wr (Blk p (.cells #[.int .u64 n, .int .u64 ep, .slice A2 N c2] 62) :: Blk q (.cells #[.int .u64 n, .int .u64 ep, .slice A1 N c1] 62) :: R)))
  case atStart => exact ⟨0, rfl, rfl, K⟩
  case round =>
    clear K
    obtain ⟨i, hg, rfl, K⟩ := hrel
    have hiN : i ≤ N := by omega
    replace hg := Lib.hid hg
    have p2 : wr.cell? ⟨p, 2, none⟩ = some (.slice A2 N c2) := K.out.cellOf 2 rfl
    have q2 : wr.cell? ⟨q, 2, none⟩ = some (.slice A1 N c1) := K.out.at1.cellOf 2 rfl
    rcases Nat.lt_or_ge i N with hlt | hlt
    · have hi0 : (0 : Int) ≤ (i : Int) := by omega
      have hi1 : (i : Int) < (N : Int) := by omega
      have hwi : IntKind.i64.wrap ((i : Int) + 1) = ((i + 1 : Nat) : Int) := by rw [IntWalk.i64_in _ (by omega)]; omega
      obtain ⟨x, hx⟩ : ∃ x, l[i]? = some x := ⟨_, List.getElem?_eq_getElem (by have := hN.out; omega)⟩
      obtain ⟨g1, o1, rfl⟩ := (h10.out wr K.out.tail.tail).some_ (by have := hN.out; omega)
      obtain ⟨g2, o2, rfl⟩ := (h20.out wr K.out.tail.tail).some_ (by have := hN.out; omega)
      have s1 : wr.cell? ⟨g1, o1 + i, none⟩ = some (.string x) := by have := (h10.out wr K.out.tail.tail).cell hx 0 rfl; simpa [Enc.str] using this
      have s2 : wr.cell? ⟨g2, o2 + i, none⟩ = some (.string x) := by have := (h20.out wr K.out.tail.tail).cell hx 0 rfl; simpa [Enc.str] using this
      replace hx := Lib.hid hx
      go_wp2_with fail
      go_quiet (fail)
      go_wp2_with fail
      go_roundg (N - (i + 1))
      case measure => have := hg.out; omega
      case rel => exact ⟨i + 1, by have := hg.out; omega, by go_num, Lib.hid (K.out.drewN nq)⟩
    · have hi1 : decide ((i : Int) < (N : Int)) = false := by rw [decide_eq_false_iff_not]; omega
      have hi2 : decide (i < N) = false := by rw [decide_eq_false_iff_not]; omega
      clear hlt
      go_wp2_with fail
      go_ret
      exact ⟨rfl, K.out.tail.tail⟩
end Go.Proofs.Ytjdkpogkhecijaa

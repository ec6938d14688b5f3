import Derived.Test.YtbifajiigpalhaaKn
import Derived.IntWalk
import Derived.Test.YtbifajiigpalhaaProg
import Derived.Test.YtbifajiigpalhaaLs
import Derived.Outline
import Derived.StillTailTactics
import Derived.Deep.DeepCutAuto
import Derived.Deep.CutBlock
import Derived.Deep.LoopGhost
import Derived.Deep.QuietTactic
import Derived.BigQuiet
import Derived.Deep.RegionHeld3
import Derived.Deep.RegionLaw
set_option linter.unusedVariables false
set_option linter.unusedSimpArgs false
namespace Go.Proofs.Ytbifajiigpalhaa
open Go.RowKit
def lastOf (p : Int) (i : Nat) : Int := if i = 0 then -1 else partG ((i : Int) - 1) p
theorem lastOf_succ (p : Int) (i : Nat) : lastOf p (i + 1) = partG i p := by
  unfold lastOf
  rw [if_neg (by omega)]
  congr 1
  omega
theorem last_step (p : Int) (hp : 1 ≤ p ∧ p ≤ 4) : ∀ i < 16, partG ((i : Nat) : Int) p = lastOf p i ∨ partG ((i : Nat) : Int) p = lastOf p i + 1 := by
  rcases (show p = 1 ∨ p = 2 ∨ p = 3 ∨ p = 4 by omega) with rfl | rfl | rfl | rfl <;> decide
theorem last_end (p : Int) (hp : 1 ≤ p ∧ p ≤ 4) : lastOf p 16 = p - 1 ∧ partG 0 p = 0 := by
  rcases (show p = 1 ∨ p = 2 ∨ p = 3 ∨ p = 4 by omega) with rfl | rfl | rfl | rfl <;> decide
theorem part_in (p : Int) (hp : 1 ≤ p ∧ p ≤ 4) : ∀ i < 16, 0 ≤ partG ((i : Nat) : Int) p ∧ partG ((i : Nat) : Int) p < p := by
  rcases (show p = 1 ∨ p = 2 ∨ p = 3 ∨ p = 4 by omega) with rfl | rfl | rfl | rfl <;> decide
theorem last_in (p : Int) (hp : 1 ≤ p ∧ p ≤ 4) : ∀ i ≤ 16, -1 ≤ lastOf p i ∧ lastOf p i < 4 := by
  rcases (show p = 1 ∨ p = 2 ∨ p = 3 ∨ p = 4 by omega) with rfl | rfl | rfl | rfl <;> decide
theorem part_bad (g p : Int) (h : p < 1 ∨ 4 < p) : partG g p = 0 := by
  unfold partG partB
  rcases h with h | h
  · rw [decide_eq_true h, Bool.or_true]; rfl
  · rw [decide_eq_true h, Bool.or_true]; rfl
set_option maxRecDepth 100000 in
set_option maxHeartbeats 4000000 in
theorem plangroups_walk (key p : Int) (w : World) (hk : (Lit.int .i64 key).wf = true) (hp : (Lit.int .i64 p).wf = true) : Calls Try.prog 5 #[.int .i64 key, .int .i64 p] w fun e w' => e = .returned (.bool true) ∧ Below w.heap.size w w' := by
  clear hk hp
  obtain ⟨g, hg⟩ : ∃ g, group key = g := ⟨_, rfl⟩
  have hgi := group_in key
  rw [hg] at hgi
  obtain ⟨hg0, hg1⟩ := hgi
  replace hg := Lib.hid hg
  have hd1 : decide (g < 0) = false := by rw [decide_eq_false_iff_not]; omega
  have hd2 : decide (16 ≤ g) = false := by rw [decide_eq_false_iff_not]; omega
  obtain ⟨q, hq⟩ : ∃ q, partG g p = q := ⟨_, rfl⟩
  replace hq := Lib.hid hq
  rcases (show p < 1 ∨ (1 ≤ p ∧ 4 < p) ∨ (1 ≤ p ∧ p ≤ 4) by omega) with h | ⟨h, h'⟩ | ⟨h, h'⟩
  · have hq0 : q = 0 := by rw [← hq.out]; exact part_bad g p (.inl h)
    subst hq0
    go_enter Try.func5, Try.ntmps5
    go_wp2_with fail
    refine (known8 w w _ (Hs.start w)).mono ?_
    rintro e w1 ⟨rfl, H⟩
    go_wp2_with fail
    refine (group22 key w1).mono ?_
    rw [hg.out]
    rintro e w2 ⟨rfl, rfl⟩
    go_wp2_with fail
    refine (group23 key w1).mono ?_
    rw [hg.out]
    rintro e w2 ⟨rfl, rfl⟩
    go_wp2_with fail
    refine (part24 g p w1).mono ?_
    rw [hq.out]
    rintro e w2 ⟨rfl, rfl⟩
    go_wp2_with fail
    refine (part25 g p w1).mono ?_
    rw [hq.out]
    rintro e w2 ⟨rfl, rfl⟩
    go_wp2_with fail
    refine (part24 g p w1).mono ?_
    rw [hq.out]
    rintro e w2 ⟨rfl, rfl⟩
    go_wp2_with fail
    go_ret
    exact ⟨rfl, H.under_old⟩
  · have hq0 : q = 0 := by rw [← hq.out]; exact part_bad g p (.inr h')
    subst hq0
    have hd3 : decide (p < 1) = false := by rw [decide_eq_false_iff_not]; omega
    go_enter Try.func5, Try.ntmps5
    go_wp2_with fail
    refine (known8 w w _ (Hs.start w)).mono ?_
    rintro e w1 ⟨rfl, H⟩
    go_wp2_with fail
    refine (group22 key w1).mono ?_
    rw [hg.out]
    rintro e w2 ⟨rfl, rfl⟩
    go_wp2_with fail
    refine (group23 key w1).mono ?_
    rw [hg.out]
    rintro e w2 ⟨rfl, rfl⟩
    go_wp2_with fail
    refine (part24 g p w1).mono ?_
    rw [hq.out]
    rintro e w2 ⟨rfl, rfl⟩
    go_wp2_with fail
    refine (part25 g p w1).mono ?_
    rw [hq.out]
    rintro e w2 ⟨rfl, rfl⟩
    go_wp2_with fail
    refine (part24 g p w1).mono ?_
    rw [hq.out]
    rintro e w2 ⟨rfl, rfl⟩
    go_wp2_with fail
    go_ret
    exact ⟨rfl, H.under_old⟩
  · have hd3 : decide (p < 1) = false := by rw [decide_eq_false_iff_not]; omega
    have hd4 : decide (4 < p) = false := by rw [decide_eq_false_iff_not]; omega
    have hpp : Hid (1 ≤ p ∧ p ≤ 4) := ⟨h, h'⟩
    go_enter Try.func5, Try.ntmps5
    go_wp2_with fail
    refine (known8 w w _ (Hs.start w)).mono ?_
    rintro e w1 ⟨rfl, H⟩
    go_wp2_with fail
    refine (group22 key w1).mono ?_
    rw [hg.out]
    rintro e w2 ⟨rfl, rfl⟩
    go_wp2_with fail
    refine (group23 key w1).mono ?_
    rw [hg.out]
    rintro e w2 ⟨rfl, rfl⟩
    go_wp2_with fail
    refine (part24 g p w1).mono ?_
    rw [hq.out]
    rintro e w2 ⟨rfl, rfl⟩
    go_wp2_with fail
    refine (part25 g p w1).mono ?_
    rw [hq.out]
    rintro e w2 ⟨rfl, rfl⟩
    go_wp2_with fail
    go_loopg [6, 7] 16 (fun k lv iv wr => ∃ (i : Nat) (l : Int), k + i = 16 ∧ iv = .int .i64 i ∧ lv = .int .i64 l ∧ Hid (lastOf p i = l) ∧ Hid (wr = w1))
    case atStart => exact ⟨0, -1, rfl, rfl, rfl, Lib.hid rfl, Lib.hid rfl⟩
    case round =>
      obtain ⟨i, l, hi, rfl, rfl, hl, hw⟩ := hrel
      have hw0 := hw.out
      subst hw0
      have hi16 : i ≤ 16 := by omega
      replace hi := Lib.hid hi
      rcases Nat.lt_or_ge i 16 with hlt | hlt
      · have hi0 : (0 : Int) ≤ (i : Int) := by omega
        have hi1 : (i : Int) < 16 := by omega
        have hw6 : IntKind.i64.wrap ((i : Int) + 1) = ((i + 1 : Nat) : Int) := by rw [IntWalk.i64_in _ (by omega)]; omega
        have hli := last_in p hpp.out i (by omega)
        rw [hl.out] at hli
        obtain ⟨hl0, hl1⟩ := hli
        have hw7 : IntKind.i64.wrap (l + 1) = l + 1 := IntWalk.i64_in _ (by omega)
        obtain ⟨m, hm⟩ : ∃ m, partG (i : Int) p = m := ⟨_, rfl⟩
        have hstep := last_step p hpp.out i hlt
        rw [hl.out, hm] at hstep
        have hls : Hid (lastOf p (i + 1) = m) := by show _ = _; rw [lastOf_succ, hm]
        replace hm := Lib.hid hm
        rcases hstep with e | e
        · have e1 : (m != l) = false := by rw [bne_eq_false_iff_eq]; exact e
          clear e
          go_wp2_with fail
          refine (part24 i p wr).mono ?_
          rw [hm.out]
          rintro e w2 ⟨rfl, rfl⟩
          go_wp2_with fail
          go_roundg (16 - (i + 1))
          case measure => have := hi.out; omega
          case rel => exact ⟨i + 1, m, by have := hi.out; omega, by go_num, rfl, hls, Lib.hid rfl⟩
        · have e1 : (m != l) = true := by rw [bne_iff_ne]; omega
          have e2 : (m != l + 1) = false := by rw [bne_eq_false_iff_eq]; exact e
          clear e
          go_wp2_with fail
          refine (part24 i p wr).mono ?_
          rw [hm.out]
          rintro e w2 ⟨rfl, rfl⟩
          go_wp2_with fail
          go_roundg (16 - (i + 1))
          case measure => have := hi.out; omega
          case rel => exact ⟨i + 1, m, by have := hi.out; omega, by go_num, rfl, hls, Lib.hid rfl⟩
      · obtain rfl : i = 16 := by omega
        have he := last_end p hpp.out
        rw [hl.out] at he
        obtain ⟨rfl, hp0⟩ := he
        replace hp0 := Lib.hid hp0
        have hw7 : IntKind.i64.wrap (p - 1) = p - 1 := IntWalk.i64_in _ (by omega)
        clear hlt
        go_wp2_with fail
        refine (part24 0 p wr).mono ?_
        rw [hp0.out]
        rintro e w2 ⟨rfl, rfl⟩
        go_wp2_with fail
        go_ret
        exact ⟨rfl, H.under_old⟩
end Go.Proofs.Ytbifajiigpalhaa

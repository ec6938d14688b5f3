import Derived.Test.YtjdkpogkhecijaaMd
import Derived.IntWalk
import Derived.Test.YtjdkpogkhecijaaProg
import Derived.Test.YtjdkpogkhecijaaLs
import Derived.Outline
import Derived.StillTailTactics
import Derived.Deep.DeepCutAuto
import Derived.Deep.CutBlock
import Derived.Deep.LoopGhost
import Derived.Deep.QuietTactic
import Derived.BigQuiet
import Derived.Deep.RegionHeld3
import Derived.Deep.RegionLaw
set_option linter.unusedVariables false
set_option linter.unusedSimpArgs false
namespace Go.Proofs.Ytjdkpogkhecijaa
open Go.RowKit
set_option maxRecDepth 100000 in
set_option maxHeartbeats 800000 in
theorem number40 (v : Value) (bs : List Int) (n : Int) (hn : 0 ≤ n ∧ n < 18446744073709551616) (k : Nat) (hk : k ≤ 8) (w w0 : World) (R : List HP) (H : Hs w0 w (Ls U8 5 v bs :: R)) (hl : bs.length ≤ 1000000000) :
    Calls Try.prog 40 #[v, .int .u64 n, .int .i64 k] w fun e w' => ∃ A c, e = .returned (.slice A (bs.length + k) c) ∧ Hs w0 w' (Ls U8 5 (.slice A (bs.length + k) c) (bs ++ put k n) :: R) := by
  obtain ⟨A, c, rfl⟩ := H.ls_form
  obtain ⟨m, hm⟩ : ∃ m, bs.length = m := ⟨_, rfl⟩
  rw [hm] at H hl ⊢
  replace hm := Lib.hid hm
  replace H := Lib.hid H
  have hk0 : (k : Int) ≤ 8 := by omega
  go_enter Try.func40, Try.ntmps40
  go_wp2_with fail
  go_loopg [0, 7] k (fun g lv iv wr => ∃ (j : Nat) (A : Option Addr) (m c : Nat) (cur : List Int), g = j ∧ j ≤ k ∧ m + j ≤ 1000000008 ∧ iv = .int .i64 ((j : Int) - 1) ∧ lv = .slice A m c ∧ Hid (cur.length = m) ∧ Hid (cur ++ put j n = bs ++ put k n) ∧ Hid (Hs w0 wr (Ls U8 5 (.slice A m c) cur :: R)))
  case atStart => exact ⟨k, A, m, c, bs, rfl, Nat.le_refl _, by omega, rfl, rfl, hm, Lib.hid rfl, H⟩
  case round =>
    clear H
    obtain ⟨j, A, m2, c, cur, hg, hjk, hmj, rfl, rfl, hm2, he, H⟩ := hrel
    replace hg := Lib.hid hg
    rcases Nat.eq_zero_or_pos j with rfl | hj
    · have h0 : decide ((0 : Int) ≤ ((0 : Nat) : Int) - 1) = false := by decide
      have he2 : cur = bs ++ put k n := by have := he.out; rwa [show put 0 n = [] from rfl, List.append_nil] at this
      have hm3 : m2 = m + k := by have := hm2.out; rw [he2, List.length_append, put_len, hm.out] at this; exact this.symm
      rw [he2, hm3] at H
      have hm4 := Lib.hid hm3
      clear he2 hm3
      go_wp2_with fail
      go_ret
      rw [hm4.out]
      exact ⟨_, _, rfl, H.out⟩
    · obtain ⟨i, rfl⟩ : ∃ i, j = i + 1 := ⟨j - 1, by omega⟩
      have h0 : decide ((0 : Int) ≤ ((i + 1 : Nat) : Int) - 1) = true := by rw [decide_eq_true_eq]; omega
      go_wp2_with (at_builtin; refine wpList_append1N (E := U8) m2 hm2.out rfl (.tmp 14) (.tmp 21) 22 rfl 5 _ 1 1 Try.underlying22 infoB8 rfl (by decide) (by decide) rfl rfl rfl (by simp) H.out (n / 2 ^ (8 * i) % 256) (by omega) ?_)
      intro A5 c5 w5 K5
      replace K5 := Lib.hid K5
      clear H
      go_wp2_with fail
      go_roundg i
      case measure => have := hg.out; omega
      case rel => exact ⟨i, A5, m2 + 1, c5, cur ++ [n / 2 ^ (8 * i) % 256], rfl, by omega, by omega, by first | rfl | go_num, by first | rfl | simp, by show _ = _; rw [List.length_append, hm2.out]; rfl, by show _ = _; rw [List.append_assoc]; exact he.out, K5⟩
set_option maxRecDepth 100000 in
set_option maxHeartbeats 800000 in
theorem put41 (v : Value) (bs : List Int) (n : Int) (hn : 0 ≤ n ∧ n < 18446744073709551616) (k : Nat) (hk : k ≤ 8) (w w0 : World) (R : List HP) (H : Hs w0 w (Ls U8 5 v bs :: R)) (hl : bs.length ≤ 1000000000) :
    Calls Try.prog 41 #[v, .int .i64 k, .int .u64 n] w fun e w' => ∃ A c, e = .returned (.slice A (bs.length + k) c) ∧ Hs w0 w' (Ls U8 5 (.slice A (bs.length + k) c) (bs ++ put k n) :: R) := by
  obtain ⟨A, c, rfl⟩ := H.ls_form
  obtain ⟨m, hm⟩ : ∃ m, bs.length = m := ⟨_, rfl⟩
  rw [hm] at H hl ⊢
  replace hm := Lib.hid hm
  replace H := Lib.hid H
  have hk0 : (k : Int) ≤ 8 := by omega
  go_enter Try.func41, Try.ntmps41
  go_wp2_with fail
  go_loopg [0, 7] k (fun g lv iv wr => ∃ (j : Nat) (A : Option Addr) (m c : Nat) (cur : List Int), g = j ∧ j ≤ k ∧ m + j ≤ 1000000008 ∧ iv = .int .i64 ((j : Int) - 1) ∧ lv = .slice A m c ∧ Hid (cur.length = m) ∧ Hid (cur ++ put j n = bs ++ put k n) ∧ Hid (Hs w0 wr (Ls U8 5 (.slice A m c) cur :: R)))
  case atStart => exact ⟨k, A, m, c, bs, rfl, Nat.le_refl _, by omega, rfl, rfl, hm, Lib.hid rfl, H⟩
  case round =>
    clear H
    obtain ⟨j, A, m2, c, cur, hg, hjk, hmj, rfl, rfl, hm2, he, H⟩ := hrel
    replace hg := Lib.hid hg
    rcases Nat.eq_zero_or_pos j with rfl | hj
    · have h0 : decide ((0 : Int) ≤ ((0 : Nat) : Int) - 1) = false := by decide
      have he2 : cur = bs ++ put k n := by have := he.out; rwa [show put 0 n = [] from rfl, List.append_nil] at this
      have hm3 : m2 = m + k := by have := hm2.out; rw [he2, List.length_append, put_len, hm.out] at this; exact this.symm
      rw [he2, hm3] at H
      have hm4 := Lib.hid hm3
      clear he2 hm3
      go_wp2_with fail
      go_ret
      rw [hm4.out]
      exact ⟨_, _, rfl, H.out⟩
    · obtain ⟨i, rfl⟩ : ∃ i, j = i + 1 := ⟨j - 1, by omega⟩
      have h0 : decide ((0 : Int) ≤ ((i + 1 : Nat) : Int) - 1) = true := by rw [decide_eq_true_eq]; omega
      go_wp2_with (at_builtin; refine wpList_append1N (E := U8) m2 hm2.out rfl (.tmp 14) (.tmp 20) 22 rfl 5 _ 1 1 Try.underlying22 infoB8 rfl (by decide) (by decide) rfl rfl rfl (by simp) H.out (n / 2 ^ (8 * i) % 256) (by omega) ?_)
      intro A5 c5 w5 K5
      replace K5 := Lib.hid K5
      clear H
      go_wp2_with fail
      go_roundg i
      case measure => have := hg.out; omega
      case rel => exact ⟨i, A5, m2 + 1, c5, cur ++ [n / 2 ^ (8 * i) % 256], rfl, by omega, by omega, by first | rfl | go_num, by first | rfl | simp, by show _ = _; rw [List.length_append, hm2.out]; rfl, by show _ = _; rw [List.append_assoc]; exact he.out, K5⟩
theorem number40N (N : Nat) (v : Value) (bs : List Int) (hN : bs.length = N) (n : Int) (hn : 0 ≤ n ∧ n < 18446744073709551616) (k : Nat) (hk : k ≤ 8) (ki : Int) (hki : Hid ((k : Int) = ki)) (w w0 : World) (R : List HP) (H : Hs w0 w (Ls U8 5 v bs :: R)) (hl : N ≤ 1000000000) :
    Calls Try.prog 40 #[v, .int .u64 n, .int .i64 ki] w fun e w' => ∃ A c, e = .returned (.slice A (N + k) c) ∧ (bs ++ put k n).length = N + k ∧ Hs w0 w' (Ls U8 5 (.slice A (N + k) c) (bs ++ put k n) :: R) := by
  subst hN
  have hki := hki.out
  subst hki
  refine (number40 v bs n hn k hk w w0 R H hl).mono ?_
  rintro e w' ⟨A, c, rfl, K⟩
  exact ⟨A, c, rfl, by rw [List.length_append, put_len], K⟩
theorem put41N (N : Nat) (v : Value) (bs : List Int) (hN : bs.length = N) (n : Int) (hn : 0 ≤ n ∧ n < 18446744073709551616) (k : Nat) (hk : k ≤ 8) (ki : Int) (hki : Hid ((k : Int) = ki)) (w w0 : World) (R : List HP) (H : Hs w0 w (Ls U8 5 v bs :: R)) (hl : N ≤ 1000000000) :
    Calls Try.prog 41 #[v, .int .i64 ki, .int .u64 n] w fun e w' => ∃ A c, e = .returned (.slice A (N + k) c) ∧ (bs ++ put k n).length = N + k ∧ Hs w0 w' (Ls U8 5 (.slice A (N + k) c) (bs ++ put k n) :: R) := by
  subst hN
  have hki := hki.out
  subst hki
  refine (put41 v bs n hn k hk w w0 R H hl).mono ?_
  rintro e w' ⟨A, c, rfl, K⟩
  exact ⟨A, c, rfl, by rw [List.length_append, put_len], K⟩
end Go.Proofs.Ytjdkpogkhecijaa

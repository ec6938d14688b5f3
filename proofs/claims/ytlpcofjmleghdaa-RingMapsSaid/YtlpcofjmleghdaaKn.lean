import Derived.Test.YtlpcofjmleghdaaRs
import Derived.IntWalk
import Derived.Test.YtlpcofjmleghdaaProg
import Derived.Test.YtlpcofjmleghdaaLs
import Derived.Outline
import Derived.StillTailTactics
import Derived.Deep.DeepCutAuto
import Derived.Deep.CutBlock
import Derived.Deep.LoopGhost
import Derived.Deep.QuietTactic
import Derived.BigQuiet
import Derived.Deep.RegionHeld3
import Derived.Deep.RegionLaw
set_option linter.unusedVariables false
set_option linter.unusedSimpArgs false
namespace Go.Proofs.Ytlpcofjmleghdaa
open Go.RowKit
/-- leathelp.Place. -/
theorem place8 (n m : Int) (w : World) (hm : 0 < m) (hm2 : m ≤ 1000000) : Calls Try.prog 8 #[.int .i64 n, .int .i64 m] w fun e w' => e = .returned (.int .i64 (n % m)) ∧ w = w' := by
  have h1 := Int.tmod_lt_of_pos n hm
  have h2 := Int.lt_tmod_of_pos n hm
  have hz : m ≠ 0 := by omega
  have hz0 : (m == 0) = false := by rw [beq_eq_false_iff_ne]; exact hz
  rcases Int.lt_or_le (n.tmod m) 0 with h | h
  · have e1 := Lib.hid (tmod_up n m hm h)
    go_enter Try.func8, Try.ntmps8
    go_wp2_with fail
    go_ret
    rw [← e1.out]
    exact ⟨rfl, rfl⟩
  · have e1 := Lib.hid (tmod_in n m hm h)
    go_enter Try.func8, Try.ntmps8
    go_wp2_with fail
    go_ret
    rw [← e1.out]
    exact ⟨rfl, rfl⟩
/-- Are two lists the same? (one-cell elements) -/
theorem eqlist28 (v1 v2 : Value) (xs ys : List (Int)) (w : World) (h1 : RdL (Enc.num .i64) w v1 xs) (h2 : RdL (Enc.num .i64) w v2 ys) :
    Calls Try.prog 28 #[v1, v2] w fun e w' => e = .returned (.bool (decide (xs = ys))) ∧ ∃ n, w' = w.drewN n := by
  obtain ⟨A, c, rfl⟩ := h1.form
  obtain ⟨B, d, rfl⟩ := h2.form
  obtain ⟨_, ha, hb⟩ := h1.caps
  obtain ⟨_, hc, hd⟩ := h2.caps
  by_cases hl : xs.length = ys.length
  · have hne : ((xs.length : Int) != (ys.length : Int)) = false := by rw [hl]; simp
    clear hne
    generalize hn : xs.length = n at *
    generalize hm : ys.length = m at *
    subst hl
    have hr1 := Lib.hid h1
    have hr2 := Lib.hid h2
    replace hn := Lib.hid hn
    have hl' := Lib.hid hm
    clear h1 h2 hm
    go_enter Try.func28, Try.ntmps28
    go_wp2_with fail
    go_loopg [5] n (fun k i wr => ∃ (j q : Nat), k + j = n ∧ i = .int .i64 j ∧ Hid (xs.take j = ys.take j) ∧ wr = w.drewN q)
    case atStart => exact ⟨0, 0, rfl, rfl, rfl, rfl⟩
    case round =>
      obtain ⟨j, q, hk, rfl, he, rfl⟩ := hrel
      have hjn : j ≤ n := by omega
      replace hk := Lib.hid hk
      rcases Nat.lt_or_ge j n with hj | hj
      · obtain ⟨g, off, rfl⟩ := hr1.out.some_ (by have := hn.out; omega)
        obtain ⟨g2, off2, rfl⟩ := hr2.out.some_ (by have := hl'.out; omega)
        obtain ⟨x, hx⟩ : ∃ x, xs[j]? = some x := ⟨_, List.getElem?_eq_getElem (by have := hn.out; omega)⟩
        obtain ⟨y, hy⟩ : ∃ y, ys[j]? = some y := ⟨_, List.getElem?_eq_getElem (by have := hl'.out; omega)⟩
        have s0 : w.cell? ⟨g, off + j, none⟩ = some (Value.int .i64 x) := by have := hr1.out.cell hx 0 rfl; simpa [Enc.num, Enc.str, Enc.flag] using this
        have s1 : w.cell? ⟨g2, off2 + j, none⟩ = some (Value.int .i64 y) := by have := hr2.out.cell hy 0 rfl; simpa [Enc.num, Enc.str, Enc.flag] using this
        have hj0 : (0 : Int) ≤ (j : Int) := by omega
        have hj1 : (j : Int) < (n : Int) := by omega
        replace hx := Lib.hid hx
        replace hy := Lib.hid hy
        by_cases hxy : x = y
        · subst hxy
          go_wp2_with fail
          go_quiet (fail)
          go_wp2_with fail
          go_roundg (n - (j + 1))
          case measure => have := hk.out; omega
          case rel =>
            refine ⟨j + 1, _, by have := hk.out; omega, by go_num, ?_, by first | rfl | exact World.drewN_drewN ..⟩
            show _ = _
            rw [List.take_add_one, List.take_add_one, he.out, hx.out, hy.out]
        · have hb1 : (x != y) = true := by rw [bne_iff_ne]; exact hxy
          have hne2 : Hid (¬ xs = ys) := fun e => hxy (by have h1 := hx.out; have h2 := hy.out; rw [e, h2] at h1; injection h1 with h1; exact h1.symm)
          go_wp2_with fail
          go_quiet (fail)
          go_wp2_with fail
          go_ret
          exact ⟨by rw [decide_eq_false hne2.out]; rfl, _, by first | rfl | exact World.drewN_drewN ..⟩
      · go_wp2_with fail
        go_ret
        refine ⟨?_, _, rfl⟩
        have : xs = ys := by
          have h := he.out
          have h1 := hn.out
          have h2 := hl'.out
          rwa [List.take_of_length_le (by omega), List.take_of_length_le (by omega)] at h
        rw [decide_eq_true this]
        rfl
  · have hne : ((xs.length : Int) != (ys.length : Int)) = true := by rw [bne_iff_ne]; omega
    have hne2 : Hid (¬ xs = ys) := fun e => hl (by rw [e])
    clear h1 h2
    go_enter Try.func28, Try.ntmps28
    go_wp2_with fail
    go_ret
    exact ⟨by rw [decide_eq_false hne2.out]; rfl, 0, rfl⟩
abbrev RI (p most : Nat) (xs : List Int) : HP := Rg (Enc.num .i64) 3 71 p most xs
abbrev TS (p cap : Nat) (xs : List ByteArray) : HP := Ty 82 Value.string p cap xs
set_option maxRecDepth 100000 in
set_option maxHeartbeats 1000000 in
theorem known7 (w w0 : World) (R : List HP) (H : Hs w0 w R) : Calls Try.prog 7 #[] w fun e w' => e = .returned (.bool true) ∧ Hs w0 w' R := by
  have T1 : Hid (∀ w R, Hs w0 w R → Calls Try.prog 19 #[.int .i64 2] w fun e w' => ∃ p, e = .returned (.pointer (some ⟨p, 0, none⟩)) ∧ Hs w0 w' (RI p 2 [] :: R)) := fun w R H => new19 2 w w0 R H
  have T2 : Hid (∀ w R, Hs w0 w R → Calls Try.prog 34 #[.int .i64 1] w fun e w' => ∃ p, e = .returned (.pointer (some ⟨p, 0, none⟩)) ∧ Hs w0 w' (TS p 1 [] :: R)) := fun w R H => newtry34 1 w w0 R H
  have T3 : Hid (∀ w R, Hs w0 w R → Calls Try.prog 34 #[.int .i64 3] w fun e w' => ∃ p, e = .returned (.pointer (some ⟨p, 0, none⟩)) ∧ Hs w0 w' (TS p 3 [] :: R)) := fun w R H => newtry34 3 w w0 R H
  have T4 : Hid (∀ p w R, Hs w0 w (RI p 2 [] :: R) → Calls Try.prog 20 #[.pointer (some ⟨p, 0, none⟩), .int .i64 1] w fun e w' => e = .returned (.bool true) ∧ Hs w0 w' (RI p 2 [1] :: R)) := fun p w R H => put20 p 2 [] 1 w w0 R H (by decide)
  have T5 : Hid (∀ p w R, Hs w0 w (RI p 2 [1] :: R) → Calls Try.prog 20 #[.pointer (some ⟨p, 0, none⟩), .int .i64 2] w fun e w' => e = .returned (.bool true) ∧ Hs w0 w' (RI p 2 [1, 2] :: R)) := fun p w R H => put20 p 2 [1] 2 w w0 R H (by decide)
  have T6 : Hid (∀ p w R, Hs w0 w (RI p 2 [1, 2] :: R) → Calls Try.prog 20 #[.pointer (some ⟨p, 0, none⟩), .int .i64 3] w fun e w' => e = .returned (.bool false) ∧ Hs w0 w' (RI p 2 [1, 2] :: R)) := fun p w R H => put20 p 2 [1, 2] 3 w w0 R H (by decide)
  have T7 : Hid (∀ p w R, Hs w0 w (RI p 2 [1, 2] :: R) → Calls Try.prog 21 #[.pointer (some ⟨p, 0, none⟩), .int .i64 3] w fun e w' => e = .returned (.bool true) ∧ Hs w0 w' (RI p 2 [3, 1, 2] :: R)) := fun p w R H => front21 p 2 [1, 2] 3 w w0 R H (by decide) (by decide)
  have T8 : Hid (∀ p w R, Hs w0 w (RI p 2 [3, 1, 2] :: R) → Calls Try.prog 22 #[.pointer (some ⟨p, 0, none⟩)] w fun e w' => e = .returned (.tuple #[.int .i64 3, .bool true]) ∧ Hs w0 w' (RI p 2 [1, 2] :: R)) := fun p w R H => takeC22 p 2 3 [1, 2] w w0 R H (by decide)
  have T9 : Hid (∀ p w R, Hs w0 w (TS p 1 [] :: R) → Calls Try.prog 35 #[.pointer (some ⟨p, 0, none⟩), .string ⟨#[120]⟩] w fun e w' => e = .returned (.bool true) ∧ Hs w0 w' (TS p 1 [⟨#[120]⟩] :: R)) := fun p w R H => send35 p 1 [] ⟨#[120]⟩ w w0 R H
  have Ta : Hid (∀ p w R, Hs w0 w (TS p 1 [⟨#[120]⟩] :: R) → Calls Try.prog 35 #[.pointer (some ⟨p, 0, none⟩), .string ⟨#[121]⟩] w fun e w' => e = .returned (.bool false) ∧ Hs w0 w' (TS p 1 [⟨#[120]⟩] :: R)) := fun p w R H => send35 p 1 [⟨#[120]⟩] ⟨#[121]⟩ w w0 R H
  have Tb : Hid (∀ p w R, Hs w0 w (TS p 3 [] :: R) → Calls Try.prog 35 #[.pointer (some ⟨p, 0, none⟩), .string ⟨#[122]⟩] w fun e w' => e = .returned (.bool true) ∧ Hs w0 w' (TS p 3 [⟨#[122]⟩] :: R)) := fun p w R H => send35 p 3 [] ⟨#[122]⟩ w w0 R H
  have Tc : Hid (∀ p q w R, Hs w0 w (TS p 1 [⟨#[120]⟩] :: TS q 3 [⟨#[122]⟩] :: R) → Calls Try.prog 36 #[.pointer (some ⟨p, 0, none⟩), .pointer (some ⟨q, 0, none⟩)] w fun e w' => e = .returned (.tuple #[.string ⟨#[120]⟩, .int .i64 0]) ∧ Hs w0 w' (TS p 1 [] :: TS q 3 [⟨#[122]⟩] :: R)) := fun p q w R H => eitherA36 p q 1 3 ⟨#[120]⟩ [] [⟨#[122]⟩] w w0 R H
  have Td : Hid (∀ p q w R, Hs w0 w (TS p 1 [] :: TS q 3 [⟨#[122]⟩] :: R) → Calls Try.prog 36 #[.pointer (some ⟨p, 0, none⟩), .pointer (some ⟨q, 0, none⟩)] w fun e w' => e = .returned (.tuple #[.string ⟨#[122]⟩, .int .i64 1]) ∧ Hs w0 w' (TS p 1 [] :: TS q 3 [] :: R)) := fun p q w R H => eitherB36 p q 1 3 ⟨#[122]⟩ [] w w0 R H
  have Te : Hid (∀ p q w R, Hs w0 w (TS p 1 [] :: TS q 3 [] :: R) → Calls Try.prog 36 #[.pointer (some ⟨p, 0, none⟩), .pointer (some ⟨q, 0, none⟩)] w fun e w' => e = .returned (.tuple #[.string ⟨#[]⟩, .int .i64 (-1)]) ∧ Hs w0 w' (TS p 1 [] :: TS q 3 [] :: R)) := fun p q w R H => eitherN36 p q 1 3 w w0 R H
  have Tf : Hid (∀ p w R, Hs w0 w (RI p 2 [1, 2] :: R) → Calls Try.prog 25 #[.pointer (some ⟨p, 0, none⟩)] w fun e w' => e = .returned (.int .i64 2) ∧ w = w') := fun p w R H => len25 p 2 [1, 2] w w0 R H
  have Tg : Hid (∀ p w R, Hs w0 w (RI p 2 [1, 2] :: R) → Calls Try.prog 26 #[.pointer (some ⟨p, 0, none⟩)] w fun e w' => e = .returned (.int .i64 0) ∧ ∃ n, w' = w.drewN n) := fun p w R H => room26 p 2 [1, 2] w w0 R H (by decide) (by decide)
  replace H := Lib.hid H
  go_enter Try.func7, Try.ntmps7
  go_wp2_with fail
  refine (T1.out w R H.out).mono ?_
  rintro e w1 ⟨p, rfl, K⟩
  replace K := Lib.hid K
  clear H T1
  go_wp2_with fail
  refine (T2.out w1 _ K.out).mono ?_
  rintro e w2 ⟨a, rfl, K2⟩
  replace K2 := Lib.hid K2
  clear K T2
  go_wp2_with fail
  refine (T3.out w2 _ K2.out).mono ?_
  rintro e w3 ⟨b, rfl, K3⟩
  replace K3 := Lib.hid K3.at2
  clear K2 T3
  go_wp2_with fail
  refine (T4.out p w3 _ K3.out).mono ?_
  rintro e w4 ⟨rfl, K4⟩
  replace K4 := Lib.hid K4
  clear K3 T4
  go_wp2_with fail
  refine (T5.out p w4 _ K4.out).mono ?_
  rintro e w5 ⟨rfl, K5⟩
  replace K5 := Lib.hid K5
  clear K4 T5
  go_wp2_with fail
  refine (T6.out p w5 _ K5.out).mono ?_
  rintro e w6 ⟨rfl, K6⟩
  replace K6 := Lib.hid K6
  clear K5 T6
  go_wp2_with fail
  refine (T7.out p w6 _ K6.out).mono ?_
  rintro e w7 ⟨rfl, K7⟩
  replace K7 := Lib.hid K7
  clear K6 T7
  go_wp2_with fail
  refine (T8.out p w7 _ K7.out).mono ?_
  rintro e w8 ⟨rfl, K8⟩
  replace K8 := Lib.hid K8.at2
  clear K7 T8
  go_wp2_with fail
  refine (T9.out a w8 _ K8.out).mono ?_
  rintro e w9 ⟨rfl, K9⟩
  replace K9 := Lib.hid K9
  clear K8 T9
  go_wp2_with fail
  refine (Ta.out a w9 _ K9.out).mono ?_
  rintro e wa ⟨rfl, Ka⟩
  replace Ka := Lib.hid Ka.at2
  clear K9 Ta
  go_wp2_with fail
  refine (Tb.out b wa _ Ka.out).mono ?_
  rintro e wb ⟨rfl, Kb⟩
  replace Kb := Lib.hid Kb.at1
  clear Ka Tb
  go_wp2_with fail
  refine (Tc.out a b wb _ Kb.out).mono ?_
  rintro e wc ⟨rfl, Kc⟩
  replace Kc := Lib.hid Kc
  clear Kb Tc
  go_wp2_with fail
  refine (Td.out a b wc _ Kc.out).mono ?_
  rintro e wd ⟨rfl, Kd⟩
  replace Kd := Lib.hid Kd
  clear Kc Td
  go_wp2_with fail
  refine (Te.out a b wd _ Kd.out).mono ?_
  rintro e we ⟨rfl, Ke⟩
  replace Ke := Lib.hid Ke.at2
  clear Kd Te
  go_wp2_with fail
  refine (Tf.out p we _ Ke.out).mono ?_
  rintro e wf ⟨rfl, rfl⟩
  clear Tf
  go_wp2_with fail
  refine (Tg.out p we _ Ke.out).mono ?_
  rintro e wg ⟨rfl, n, rfl⟩
  clear Tg
  go_wp2_with fail
  go_ret
  exact ⟨rfl, (Ke.out.drewN n).tail.tail.tail⟩
end Go.Proofs.Ytlpcofjmleghdaa

import Derived.Test.YtjdkpogkhecijaaTa
import Derived.Test.YtjdkpogkhecijaaFb
import Derived.IntWalk
import Derived.Test.YtjdkpogkhecijaaProg
import Derived.Test.YtjdkpogkhecijaaLs
import Derived.Outline
import Derived.StillTailTactics
import Derived.Deep.DeepCutAuto
import Derived.Deep.CutBlock
import Derived.Deep.LoopGhost
import Derived.Deep.QuietTactic
import Derived.BigQuiet
import Derived.Deep.RegionHeld3
import Derived.Deep.RegionLaw
set_option linter.unusedVariables false
set_option linter.unusedSimpArgs false
namespace Go.Proofs.Ytjdkpogkhecijaa
open Go.RowKit
set_option maxRecDepth 100000 in
theorem small66 (x : Int) (w : World) : Calls Try.prog 66 #[.int .i64 x] w fun e w' => e = .returned (.bool (decide (0 ≤ x ∧ x ≤ 65535))) ∧ w = w' := by
  by_cases h1 : 0 ≤ x
  · by_cases h2 : x ≤ 65535
    · rw [decide_eq_true (show 0 ≤ x ∧ x ≤ 65535 from ⟨h1, h2⟩)]
      have e1 : decide (0 ≤ x) = true := decide_eq_true h1
      have e2 : decide (x ≤ 65535) = true := decide_eq_true h2
      clear h1 h2
      go_enter Try.func66, Try.ntmps66
      go_wp2_with fail
      go_ret
      exact ⟨rfl, rfl⟩
    · rw [decide_eq_false (show ¬ (0 ≤ x ∧ x ≤ 65535) by omega)]
      have e1 : decide (0 ≤ x) = true := decide_eq_true h1
      have e2 : decide (x ≤ 65535) = false := decide_eq_false h2
      clear h1 h2
      go_enter Try.func66, Try.ntmps66
      go_wp2_with fail
      go_ret
      exact ⟨rfl, rfl⟩
  · rw [decide_eq_false (show ¬ (0 ≤ x ∧ x ≤ 65535) by omega)]
    have e1 : decide (0 ≤ x) = false := decide_eq_false h1
    clear h1
    go_enter Try.func66, Try.ntmps66
    go_wp2_with fail
    go_ret
    exact ⟨rfl, rfl⟩
set_option maxRecDepth 100000 in
set_option maxHeartbeats 4000000 in
theorem rsnap33 (tk of mk : Int) (A1 A2 A3 : Option Addr) (n1 c1 n2 c2 n3 c3 : Nat) (ms : List Int) (ps : List Pn4) (os : List Ot) (w w0 : World) (R : List HP) (H : Hs w0 w R) (h1 : ∀ w', Hs w0 w' R → RdL (Enc.num .i64) w' (.slice A1 n1 c1) ms) (h2 : ∀ w', Hs w0 w' R → RdL ((Enc.num .i64).pair (((Enc.num .i64).pair (Enc.num .i64)).pair (Enc.num .i64))) w' (.slice A2 n2 c2) ps) (h3 : ∀ w', Hs w0 w' R → RdL ((Enc.num .i64).pair ((Enc.num .i64).pair (((Enc.num .i64).pair ((Enc.num .i64).pair (Enc.num .i64))).pair ((Enc.num .i64).pair ((Enc.num .u64).pair Enc.flag))))) w' (.slice A3 n3 c3) os) (hU : ∀ x ∈ os, U64 x.2.2.2.2.1) :
    Calls Try.prog 33 #[.agg #[.int .i64 tk, .int .i64 of, .int .i64 mk, .slice A1 n1 c1, .slice A2 n2 c2, .slice A3 n3 c3]] w (BE w0 R (snOut (tk, of, mk, ms, ps, os)) (snErr (tk, of, mk, ms, ps, os))) := by
  have l1 := (h1 w H).caps.1
  have l2 := (h2 w H).caps.1
  have l3 := (h3 w H).caps.1
  have K := Lib.hid (H.alloc (.cells #[.int .i64 tk, .int .i64 of, .int .i64 mk, .slice A1 n1 c1, .slice A2 n2 c2, .slice A3 n3 c3] 55))
  obtain ⟨L, hL⟩ : ∃ L, snOut (tk, of, mk, ms, ps, os) = L := ⟨_, rfl⟩
  obtain ⟨er, hE⟩ : ∃ er, snErr (tk, of, mk, ms, ps, os) = er := ⟨_, rfl⟩
  rw [hL, hE]
  have XB : 4096 < n2 ∨ 4096 < n3 ∨ 65535 < n1 ↔ snBig (tk, of, mk, ms, ps, os) = true := by unfold snBig; simp only [Bool.or_eq_true, decide_eq_true_eq]; omega
  have X1 : Hid (4096 < n2 ∨ 4096 < n3 ∨ 65535 < n1 → L = [] ∧ er = 12) := fun h => by
    have hb := XB.1 h
    exact ⟨by rw [← hL]; exact if_pos hb, by rw [← hE]; exact if_pos hb⟩
  have X2 : Hid (¬ (4096 < n2 ∨ 4096 < n3 ∨ 65535 < n1) → tk < 0 ∨ 65535 < tk ∨ of < 0 ∨ 65535 < of → L = [] ∧ er = 10) := fun h hb => by
    have h := fun x => h (XB.2 x)
    have hb : snBad (tk, of, mk, ms, ps, os) = true := by unfold snBad; simp only [Bool.or_eq_true, decide_eq_true_eq]; omega
    exact ⟨by rw [← hL]; exact (if_neg h).trans (if_pos hb), by rw [← hE]; exact (if_neg h).trans (if_pos hb)⟩
  have X3 : Hid (¬ (4096 < n2 ∨ 4096 < n3 ∨ 65535 < n1) → ¬ (tk < 0 ∨ 65535 < tk ∨ of < 0 ∨ 65535 < of) → (os.any badO = true → L = [] ∧ er = 10) ∧ (os.any badO = false → L = snB (tk, of, mk, ms, ps, os) ∧ er = 0)) := fun h hn => by
    have h := fun x => h (XB.2 x)
    have hb : snBad (tk, of, mk, ms, ps, os) = os.any badO := by
      unfold snBad
      dsimp only
      rw [decide_eq_false (show ¬ tk < 0 by omega), decide_eq_false (show ¬ 65535 < tk by omega), decide_eq_false (show ¬ of < 0 by omega), decide_eq_false (show ¬ 65535 < of by omega)]
      rfl
    refine ⟨fun ha => ?_, fun ha => ?_⟩
    · rw [ha] at hb
      exact ⟨by rw [← hL]; exact (if_neg h).trans (if_pos hb), by rw [← hE]; exact (if_neg h).trans (if_pos hb)⟩
    · have hb : ¬ snBad (tk, of, mk, ms, ps, os) = true := by rw [hb, ha]; simp
      exact ⟨by rw [← hL]; exact (if_neg h).trans (if_neg hb), by rw [← hE]; exact (if_neg h).trans (if_neg hb)⟩
  have h10 := Lib.hid h1
  have h20 := Lib.hid h2
  have h30 := Lib.hid h3
  have hU0 := Lib.hid hU
  replace l1 := Lib.hid l1
  replace l2 := Lib.hid l2
  replace l3 := Lib.hid l3
  clear H h1 h2 h3 hU hL hE XB
  have c8_ : Hid (((8 : Nat) : Int) = 8) := rfl
  have c2_ : Hid (((2 : Nat) : Int) = 2) := rfl
  have h8_ : Hid (8 ≤ 8) := Nat.le_refl 8
  have h2_ : Hid (2 ≤ 8) := by show _ ≤ _; omega
  obtain ⟨z, hz⟩ : ∃ z : Nat, z = 0 := ⟨_, rfl⟩
  have hz0 : Hid (z ≤ 1000000000) := by show _ ≤ _; omega
  have hz1 : Hid (z + 2 ≤ 1000000000) := by show _ ≤ _; omega
  have hz2 : Hid (z + 2 + 2 ≤ 1000000000) := by show _ ≤ _; omega
  have hzb : z + 2 + 2 + 8 ≤ 12 := by omega
  have hL0 : Hid (([] : List Int).length = z) := by show _ = _; rw [hz]; rfl
  have hxm : IntKind.u64.wrap mk = u64 mk := by unfold u64; rw [IntKind.wrap_u64]
  clear hz
  go_enter Try.func33, Try.ntmps33
  go_upto_region 1 with (fail)
  generalize World.alloc _ _ = w1 at K ⊢
  generalize w.heap.size = p at K ⊢
  have q0 : w1.cell? ⟨p, 0, none⟩ = some (.int .i64 tk) := K.out.cellOf 0 rfl
  have q1 : w1.cell? ⟨p, 1, none⟩ = some (.int .i64 of) := K.out.cellOf 1 rfl
  have q2 : w1.cell? ⟨p, 2, none⟩ = some (.int .i64 mk) := K.out.cellOf 2 rfl
  have q3 : w1.cell? ⟨p, 3, none⟩ = some (.slice A1 n1 c1) := K.out.cellOf 3 rfl
  have q4 : w1.cell? ⟨p, 4, none⟩ = some (.slice A2 n2 c2) := K.out.cellOf 4 rfl
  have q5 : w1.cell? ⟨p, 5, none⟩ = some (.slice A3 n3 c3) := K.out.cellOf 5 rfl
  by_cases g1 : 4096 < n2
  · have e1 : decide ((4096 : Int) < (n2 : Int)) = true := by rw [decide_eq_true_eq]; omega
    have f1 : decide (4096 < n2) = true := by rw [decide_eq_true_eq]; omega
    obtain ⟨rfl, rfl⟩ := X1.out (by omega)
    clear g1 X2 X3
    go_wp2_with fail
    go_ret2
    exact ⟨none, 0, rfl, K.out.tail.ls_nil _ _⟩
  have e1 : decide ((4096 : Int) < (n2 : Int)) = false := by rw [decide_eq_false_iff_not]; omega
  have f1 : decide (4096 < n2) = false := by rw [decide_eq_false_iff_not]; omega
  by_cases g2 : 4096 < n3
  · have e2 : decide ((4096 : Int) < (n3 : Int)) = true := by rw [decide_eq_true_eq]; omega
    have f2 : decide (4096 < n3) = true := by rw [decide_eq_true_eq]; omega
    obtain ⟨rfl, rfl⟩ := X1.out (by omega)
    clear g1 g2 X2 X3
    go_wp2_with fail
    go_ret2
    exact ⟨none, 0, rfl, K.out.tail.ls_nil _ _⟩
  have e2 : decide ((4096 : Int) < (n3 : Int)) = false := by rw [decide_eq_false_iff_not]; omega
  have f2 : decide (4096 < n3) = false := by rw [decide_eq_false_iff_not]; omega
  by_cases g3 : 65535 < n1
  · have e3 : decide ((65535 : Int) < (n1 : Int)) = true := by rw [decide_eq_true_eq]; omega
    have f3 : decide (65535 < n1) = true := by rw [decide_eq_true_eq]; omega
    obtain ⟨rfl, rfl⟩ := X1.out (by omega)
    clear g1 g2 g3 X2 X3
    go_wp2_with fail
    go_ret2
    exact ⟨none, 0, rfl, K.out.tail.ls_nil _ _⟩
  have e3 : decide ((65535 : Int) < (n1 : Int)) = false := by rw [decide_eq_false_iff_not]; omega
  have f3 : decide (65535 < n1) = false := by rw [decide_eq_false_iff_not]; omega
  have hsm : ∀ x : Int, ∃ b, b = decide (0 ≤ x ∧ x ≤ 65535) ∧ ∀ w, Calls Try.prog 66 #[.int .i64 x] w fun e w' => e = .returned (.bool b) ∧ w = w' := fun x => ⟨_, rfl, small66 x⟩
  obtain ⟨s1, hs1, Z1⟩ := hsm tk
  obtain ⟨s2, hs2, Z2⟩ := hsm of
  replace Z1 := Lib.hid Z1
  replace Z2 := Lib.hid Z2
  clear hsm
  by_cases g4 : 0 ≤ tk ∧ tk ≤ 65535
  rotate_left
  · rw [decide_eq_false g4] at hs1
    subst hs1
    obtain ⟨rfl, rfl⟩ := X2.out (by omega) (by omega)
    clear g1 g2 g3 g4 X3 Z2
    go_wp2_with fail
    refine (Z1.out w1).mono ?_
    rintro e w2 ⟨rfl, rfl⟩
    go_wp2_with fail
    go_ret2
    exact ⟨none, 0, rfl, K.out.tail.ls_nil _ _⟩
  rw [decide_eq_true g4] at hs1
  subst hs1
  by_cases g5 : 0 ≤ of ∧ of ≤ 65535
  rotate_left
  · rw [decide_eq_false g5] at hs2
    subst hs2
    obtain ⟨rfl, rfl⟩ := X2.out (by omega) (by omega)
    clear g1 g2 g3 g4 g5 X3
    go_wp2_with fail
    refine (Z1.out w1).mono ?_
    rintro e w2 ⟨rfl, rfl⟩
    go_wp2_with fail
    refine (Z2.out w1).mono ?_
    rintro e w2 ⟨rfl, rfl⟩
    go_wp2_with fail
    go_ret2
    exact ⟨none, 0, rfl, K.out.tail.ls_nil _ _⟩
  rw [decide_eq_true g5] at hs2
  subst hs2
  obtain ⟨Y1, Y2⟩ := X3.out (by omega) (by omega)
  have b1 : n1 ≤ 65535 := by omega
  have b2 : n2 ≤ 4096 := by omega
  have b3 : n3 ≤ 4096 := by omega
  have w8 : Hid (0 ≤ tk ∧ tk < 18446744073709551616) := by show _ ∧ _; omega
  have w9 : Hid (0 ≤ of ∧ of < 18446744073709551616) := by show _ ∧ _; omega
  have hx1 : IntKind.u64.wrap tk = tk := by rw [IntKind.wrap_u64]; omega
  have hx2 : IntKind.u64.wrap of = of := by rw [IntKind.wrap_u64]; omega
  have hm1 : Hid (0 ≤ (n1 : Int) ∧ (n1 : Int) < 18446744073709551616) := by show _ ∧ _; omega
  have hm2 : Hid (0 ≤ (n2 : Int) ∧ (n2 : Int) < 18446744073709551616) := by show _ ∧ _; omega
  have hm3 : Hid (0 ≤ (n3 : Int) ∧ (n3 : Int) < 18446744073709551616) := by show _ ∧ _; omega
  have hxn1 : IntKind.u64.wrap (n1 : Int) = (n1 : Int) := by rw [IntKind.wrap_u64]; omega
  have hxn2 : IntKind.u64.wrap (n2 : Int) = (n2 : Int) := by rw [IntKind.wrap_u64]; omega
  have hxn3 : IntKind.u64.wrap (n3 : Int) = (n3 : Int) := by rw [IntKind.wrap_u64]; omega
  replace Y1 := Lib.hid Y1
  replace Y2 := Lib.hid Y2
  obtain ⟨XA, hXA⟩ : ∃ X, ((([] : List Int) ++ put 2 tk) ++ put 2 of) ++ put 8 (u64 mk) = X := ⟨_, rfl⟩
  have hXAl : XA.length = 12 := by rw [← hXA]; simp only [List.length_append, put_len, List.length_nil]
  obtain ⟨XA2, hXA2⟩ : ∃ X, XA ++ put 2 (n1 : Int) = X := ⟨_, rfl⟩
  obtain ⟨XB, hXB⟩ : ∃ X, XA2 ++ ms.flatMap markB = X := ⟨_, rfl⟩
  obtain ⟨XB2, hXB2⟩ : ∃ X, XB ++ put 2 (n2 : Int) = X := ⟨_, rfl⟩
  obtain ⟨XC, hXC⟩ : ∃ X, XB2 ++ ps.flatMap paneB = X := ⟨_, rfl⟩
  obtain ⟨XC2, hXC2⟩ : ∃ X, XC ++ put 2 (n3 : Int) = X := ⟨_, rfl⟩
  have hfin : Hid (snB (tk, of, mk, ms, ps, os) = XC2 ++ os.flatMap outB) := by
    show _ = _
    rw [← hXC2, ← hXC, ← hXB2, ← hXB, ← hXA2, ← hXA, l1.out, l2.out, l3.out]
    unfold snB
    simp only [List.append_assoc, List.nil_append]
  have hlB : XB.length = 14 + 8 * n1 := by rw [← hXB, ← hXA2, List.length_append, List.length_append, hXAl, put_len, flat_len _ 8 markB_len, l1.out]
  have hlC : XC.length = 16 + 8 * n1 + 32 * n2 := by rw [← hXC, ← hXB2, List.length_append, List.length_append, hlB, put_len, flat_len _ 32 paneB_len, l2.out]; omega
  obtain ⟨mB, hmB⟩ : ∃ m, m = 14 + 8 * n1 := ⟨_, rfl⟩
  obtain ⟨mC, hmC⟩ : ∃ m, m = 16 + 8 * n1 + 32 * n2 := ⟨_, rfl⟩
  rw [← hmB] at hlB
  rw [← hmC] at hlC
  have hbB : mB ≤ 600000 := by omega
  have hbC : mC ≤ 900000 := by omega
  replace hXA := Lib.hid hXA
  replace hXA2 := Lib.hid hXA2
  replace hXB := Lib.hid hXB
  replace hXB2 := Lib.hid hXB2
  replace hXC := Lib.hid hXC
  replace hXC2 := Lib.hid hXC2
  replace hlB := Lib.hid hlB
  replace hlC := Lib.hid hlC
  replace hmB := Lib.hid hmB
  replace hmC := Lib.hid hmC
  have hz12 : Hid (z + 2 + 2 + 8 ≤ 1000000000) := by show _ ≤ _; omega
  have hmB9 : Hid (mB ≤ 1000000000) := by show _ ≤ _; omega
  have hmC9 : Hid (mC ≤ 1000000000) := by show _ ≤ _; omega
  clear hXAl g1 g2 g3 g4 g5 X1 X2 X3
  go_wp2_with fail
  refine (Z1.out w1).mono ?_
  rintro e w2 ⟨rfl, rfl⟩
  go_wp2_with fail
  refine (Z2.out w1).mono ?_
  rintro e w2 ⟨rfl, rfl⟩
  clear Z1 Z2
  have KQ := Lib.hid (K.out.ls_nil U8 5)
  clear K
  have SS : Hid (∀ X w', Hs w0 w' (X :: Blk p (.cells #[.int .i64 tk, .int .i64 of, .int .i64 mk, .slice A1 n1 c1, .slice A2 n2 c2, .slice A3 n3 c3] 55) :: R) → w'.cell? ⟨p, 0, none⟩ = some (.int .i64 tk) ∧ w'.cell? ⟨p, 1, none⟩ = some (.int .i64 of) ∧ w'.cell? ⟨p, 2, none⟩ = some (.int .i64 mk)) := fun X w' h => ⟨h.at1.cellOf 0 rfl, h.at1.cellOf 1 rfl, h.at1.cellOf 2 rfl⟩
  go_upto_region 5 with (fail)
  clear q0 q1 q2 q3 q4 q5
  go_region_held3 (fun w' => w'.cell? ⟨p, 0, none⟩ = some (.int .i64 tk) ∧ w'.cell? ⟨p, 1, none⟩ = some (.int .i64 of) ∧ w'.cell? ⟨p, 2, none⟩ = some (.int .i64 mk))
    (first | with_reducible exact SS.out _ _ KQ.out.drew | with_reducible exact SS.out _ _ K_a | with_reducible exact SS.out _ _ K_b | with_reducible exact SS.out _ _ K_c)
    (first
      | (go_at_call 41; (with_reducible refine (put41N (z) (.slice none 0 0) ([]) hL0.out (tk) w8.out 2 h2_.out 2 c2_ _ w0 _ KQ.out.drew hz0.out).mono ?_); rintro e w_a ⟨A_a, c_a, rfl, h_a, K_a⟩)
      | (go_at_call 41; (with_reducible refine (put41N (z + 2) (.slice A_a (z + 2) c_a) ([] ++ put 2 tk) h_a (of) w9.out 2 h2_.out 2 c2_ _ w0 _ K_a hz1.out).mono ?_); rintro e w_b ⟨A_b, c_b, rfl, h_b, K_b⟩)
      | (go_at_call 41; (with_reducible refine (put41N (z + 2 + 2) (.slice A_b (z + 2 + 2) c_b) (([] ++ put 2 tk) ++ put 2 of) h_b (u64 mk) (u64_lt mk) 8 h8_.out 8 c8_ _ w0 _ K_b hz2.out).mono ?_); rintro e w_c ⟨A_c, c_c, rfl, h_c, K_c⟩))
  rw [hXA.out] at K_c h_c
  have KF := Lib.hid K_c
  have h_z := Lib.hid h_c
  have q3 : w_c.cell? ⟨p, 3, none⟩ = some (.slice A1 n1 c1) := K_c.at1.cellOf 3 rfl
  clear K_a K_b K_c h_a h_b h_c SS KQ hXA
  go_wp2_with fail
  refine (put41N (z + 2 + 2 + 8) (.slice A_c (z + 2 + 2 + 8) c_c) XA h_z.out (n1 : Int) hm1.out 2 h2_.out 2 c2_ _ w0 _ KF.out hz12.out).mono ?_
  rintro e w5 ⟨A5, c5, rfl, h5, K5⟩
  rw [hXA2.out] at h5 K5
  replace K5 := Lib.hid K5
  replace h5 := Lib.hid h5
  clear KF q3 h_z
  go_wp2_with fail
  go_loopg [4, 5] n1 (fun g lv iv wr => ∃ (i : Nat) (A : Option Addr) (m c : Nat) (cur : List Int), g + i = n1 ∧ iv = .int .i64 i ∧ lv = .slice A m c ∧ m ≤ 14 + 8 * i ∧ Hid (cur.length = m) ∧ Hid (cur = XA2 ++ (ms.take i).flatMap markB) ∧ Hid (Hs w0 wr (Ls U8 5 (.slice A m c) cur :: Blk p (.cells #[.int .i64 tk, .int .i64 of, .int .i64 mk, .slice A1 n1 c1, .slice A2 n2 c2, .slice A3 n3 c3] 55) :: R)))
  case atStart => exact ⟨0, A5, z + 2 + 2 + 8 + 2, c5, _, rfl, rfl, rfl, by omega, h5, Lib.hid (by rw [List.take_zero, List.flatMap_nil, List.append_nil]), K5⟩
  case round =>
    clear K5 h5
    obtain ⟨i, AL, m, cL, cur, hg, rfl, rfl, hm, hcm, hcur, K⟩ := hrel
    have hiN : i ≤ n1 := by omega
    replace hg := Lib.hid hg
    have q3 : wr.cell? ⟨p, 3, none⟩ = some (.slice A1 n1 c1) := K.out.at1.cellOf 3 rfl
    rcases Nat.lt_or_ge i n1 with hlt | hlt
    · have hi0 : (0 : Int) ≤ (i : Int) := by omega
      have hi1 : (i : Int) < (n1 : Int) := by omega
      have hwi : IntKind.i64.wrap ((i : Int) + 1) = ((i + 1 : Nat) : Int) := by rw [IntWalk.i64_in _ (by omega)]; omega
      obtain ⟨x, hx⟩ : ∃ x, ms[i]? = some x := ⟨_, List.getElem?_eq_getElem (by have := l1.out; omega)⟩
      obtain ⟨g, off, rfl⟩ := (h10.out wr K.out.tail.tail).some_ (by have := l1.out; omega)
      have s0 : wr.cell? ⟨g, off + i, none⟩ = some (.int .i64 x) := by have := (h10.out wr K.out.tail.tail).cell hx 0 rfl; simpa [Enc.num] using this
      have hst : Hid (cur ++ put 8 (Ytjdkpogkhecijaa.u64 x) = XA2 ++ (ms.take (i + 1)).flatMap markB) := by
        show _ = _
        rw [hcur.out, take_one hx, List.flatMap_append, List.flatMap_cons, List.flatMap_nil, List.append_nil, List.append_assoc]
        rfl
      have hxx : IntKind.u64.wrap x = Ytjdkpogkhecijaa.u64 x := by unfold Ytjdkpogkhecijaa.u64; rw [IntKind.wrap_u64]
      have hm9 : Hid (m ≤ 1000000000) := by show _ ≤ _; omega
      have hmm : m + 8 ≤ 14 + 8 * (i + 1) := by omega
      replace hx := Lib.hid hx
      go_wp2_with fail
      refine (put41N m (.slice AL m cL) cur hcm.out (Ytjdkpogkhecijaa.u64 x) (u64_lt x) 8 h8_.out 8 c8_ wr w0 _ K.out hm9.out).mono ?_
      rintro e w6 ⟨A6, c6, rfl, h6, K6⟩
      replace h6 := Lib.hid h6
      replace K6 := Lib.hid K6
      clear K s0 q3
      go_wp2_with fail
      go_roundg (n1 - (i + 1))
      case measure => have := hg.out; omega
      case rel => exact ⟨i + 1, A6, m + 8, c6, _, by have := hg.out; omega, by go_num, rfl, hmm, h6, hst, K6⟩
    · have hi1 : decide ((i : Int) < (n1 : Int)) = false := by rw [decide_eq_false_iff_not]; omega
      have hi2 : decide (i < n1) = false := by rw [decide_eq_false_iff_not]; omega
      have hfx : cur = XB := by
        rw [hcur.out, List.take_of_length_le (by have := l1.out; omega)]
        exact hXB.out
      rw [hfx] at hcm K
      have hmv : m = mB := by rw [← hcm.out]; exact hlB.out
      subst hmv
      have q4 : wr.cell? ⟨p, 4, none⟩ = some (.slice A2 n2 c2) := K.out.at1.cellOf 4 rfl
      clear hlt hfx hcur hg hm hiN
      go_wp2_with fail
      refine (put41N m (.slice AL m cL) XB hcm.out (n2 : Int) hm2.out 2 h2_.out 2 c2_ wr w0 _ K.out hmB9.out).mono ?_
      rintro e w5 ⟨A5, c5, rfl, h5, K5⟩
      rw [hXB2.out] at h5 K5
      replace K5 := Lib.hid K5
      replace h5 := Lib.hid h5
      have hmb2 : Hid (m = 14 + 8 * n1) := hmB
      clear K q3 q4 hi1 hi2
      go_wp2_with fail
      go_loopg [4, 6] n2 (fun g lv iv wr => ∃ (i : Nat) (A : Option Addr) (m c : Nat) (cur : List Int), g + i = n2 ∧ iv = .int .i64 i ∧ lv = .slice A m c ∧ m ≤ 600002 + 32 * i ∧ Hid (cur.length = m) ∧ Hid (cur = XB2 ++ (ps.take i).flatMap paneB) ∧ Hid (Hs w0 wr (Ls U8 5 (.slice A m c) cur :: Blk p (.cells #[.int .i64 tk, .int .i64 of, .int .i64 mk, .slice A1 n1 c1, .slice A2 n2 c2, .slice A3 n3 c3] 55) :: R)))
      case atStart => exact ⟨0, A5, m + 2, c5, _, rfl, rfl, rfl, by omega, h5, Lib.hid (by rw [List.take_zero, List.flatMap_nil, List.append_nil]), K5⟩
      case round =>
        clear K5 h5
        obtain ⟨i, AL, m, cL, cur, hg, rfl, rfl, hm, hcm, hcur, K⟩ := hrel
        have hiN : i ≤ n2 := by omega
        replace hg := Lib.hid hg
        have q4 : wr.cell? ⟨p, 4, none⟩ = some (.slice A2 n2 c2) := K.out.at1.cellOf 4 rfl
        rcases Nat.lt_or_ge i n2 with hlt | hlt
        · have hi0 : (0 : Int) ≤ (i : Int) := by omega
          have hi1 : (i : Int) < (n2 : Int) := by omega
          have hwi : IntKind.i64.wrap ((i : Int) + 1) = ((i + 1 : Nat) : Int) := by rw [IntWalk.i64_in _ (by omega)]; omega
          obtain ⟨⟨k, ⟨f, t⟩, a⟩, hx⟩ : ∃ x, ps[i]? = some x := ⟨_, List.getElem?_eq_getElem (by have := l2.out; omega)⟩
          obtain ⟨g, off, rfl⟩ := (h20.out wr K.out.tail.tail).some_ (by have := l2.out; omega)
          have s0 : wr.cell? ⟨g, off + i * 4 + 0, none⟩ = some (.int .i64 k) := (h20.out wr K.out.tail.tail).cell hx 0 rfl
          have s1 : wr.cell? ⟨g, off + i * 4 + 1, none⟩ = some (.int .i64 f) := (h20.out wr K.out.tail.tail).cell hx 1 rfl
          have s2 : wr.cell? ⟨g, off + i * 4 + 2, none⟩ = some (.int .i64 t) := (h20.out wr K.out.tail.tail).cell hx 2 rfl
          have s3 : wr.cell? ⟨g, off + i * 4 + 3, none⟩ = some (.int .i64 a) := (h20.out wr K.out.tail.tail).cell hx 3 rfl
          simp only [Nat.add_zero] at s0
          have hst : Hid ((((cur ++ put 8 (Ytjdkpogkhecijaa.u64 k)) ++ put 8 (Ytjdkpogkhecijaa.u64 f)) ++ put 8 (Ytjdkpogkhecijaa.u64 t)) ++ put 8 (Ytjdkpogkhecijaa.u64 a) = XB2 ++ (ps.take (i + 1)).flatMap paneB) := by
            show _ = _
            rw [hcur.out, take_one hx, List.flatMap_append, List.flatMap_cons, List.flatMap_nil, List.append_nil]
            unfold paneB
            simp only [List.append_assoc]
          have hxx : ∀ x, IntKind.u64.wrap x = Ytjdkpogkhecijaa.u64 x := fun x => by unfold Ytjdkpogkhecijaa.u64; rw [IntKind.wrap_u64]
          have hy1 := hxx k
          have hy2 := hxx f
          have hy3 := hxx t
          have hy4 := hxx a
          have hm9 : Hid (m ≤ 1000000000) := by show _ ≤ _; omega
          have hm10 : Hid (m + 8 ≤ 1000000000) := by show _ ≤ _; omega
          have hm11 : Hid (m + 8 + 8 ≤ 1000000000) := by show _ ≤ _; omega
          have hm12 : Hid (m + 8 + 8 + 8 ≤ 1000000000) := by show _ ≤ _; omega
          have hmm : m + 8 + 8 + 8 + 8 ≤ 600002 + 32 * (i + 1) := by omega
          clear hx hxx
          have KB := Lib.hid (K.out.alloc (.cells #[.int .i64 k, .int .i64 f, .int .i64 t, .int .i64 a] 106)).at1
          go_upto_region 16 with (fail)
          clear s0 s1 s2 s3 q4 K
          generalize World.alloc _ _ = wb at KB ⊢
          generalize wr.heap.size = pb at KB ⊢
          have SS : Hid (∀ X w', Hs w0 w' (X :: Blk pb (.cells #[.int .i64 k, .int .i64 f, .int .i64 t, .int .i64 a] 106) :: Blk p (.cells #[.int .i64 tk, .int .i64 of, .int .i64 mk, .slice A1 n1 c1, .slice (some ⟨g, off, none⟩) n2 c2, .slice A3 n3 c3] 55) :: R) → w'.cell? ⟨pb, 0, none⟩ = some (.int .i64 k) ∧ w'.cell? ⟨pb, 1, none⟩ = some (.int .i64 f) ∧ w'.cell? ⟨pb, 2, none⟩ = some (.int .i64 t) ∧ w'.cell? ⟨pb, 3, none⟩ = some (.int .i64 a)) := fun X w' h => ⟨h.at1.cellOf 0 rfl, h.at1.cellOf 1 rfl, h.at1.cellOf 2 rfl, h.at1.cellOf 3 rfl⟩
          go_region_held3 (fun w' => w'.cell? ⟨pb, 0, none⟩ = some (.int .i64 k) ∧ w'.cell? ⟨pb, 1, none⟩ = some (.int .i64 f) ∧ w'.cell? ⟨pb, 2, none⟩ = some (.int .i64 t) ∧ w'.cell? ⟨pb, 3, none⟩ = some (.int .i64 a))
            (first | with_reducible exact SS.out _ _ KB.out.drew | with_reducible exact SS.out _ _ K_a | with_reducible exact SS.out _ _ K_b | with_reducible exact SS.out _ _ K_c | with_reducible exact SS.out _ _ K_d)
            (first
              | (go_at_call 41; (with_reducible refine (put41N (m) (.slice AL m cL) (cur) hcm.out (Ytjdkpogkhecijaa.u64 k) (u64_lt k) 8 h8_.out 8 c8_ _ w0 _ KB.out.drew hm9.out).mono ?_); rintro e w_a ⟨A_a, c_a, rfl, h_a, K_a⟩)
              | (go_at_call 41; (with_reducible refine (put41N (m + 8) (.slice A_a (m + 8) c_a) (cur ++ put 8 (Ytjdkpogkhecijaa.u64 k)) h_a (Ytjdkpogkhecijaa.u64 f) (u64_lt f) 8 h8_.out 8 c8_ _ w0 _ K_a hm10.out).mono ?_); rintro e w_b ⟨A_b, c_b, rfl, h_b, K_b⟩)
              | (go_at_call 41; (with_reducible refine (put41N (m + 8 + 8) (.slice A_b (m + 8 + 8) c_b) ((cur ++ put 8 (Ytjdkpogkhecijaa.u64 k)) ++ put 8 (Ytjdkpogkhecijaa.u64 f)) h_b (Ytjdkpogkhecijaa.u64 t) (u64_lt t) 8 h8_.out 8 c8_ _ w0 _ K_b hm11.out).mono ?_); rintro e w_c ⟨A_c, c_c, rfl, h_c, K_c⟩)
              | (go_at_call 41; (with_reducible refine (put41N (m + 8 + 8 + 8) (.slice A_c (m + 8 + 8 + 8) c_c) (((cur ++ put 8 (Ytjdkpogkhecijaa.u64 k)) ++ put 8 (Ytjdkpogkhecijaa.u64 f)) ++ put 8 (Ytjdkpogkhecijaa.u64 t)) h_c (Ytjdkpogkhecijaa.u64 a) (u64_lt a) 8 h8_.out 8 c8_ _ w0 _ K_c hm12.out).mono ?_); rintro e w_d ⟨A_d, c_d, rfl, h_d, K_d⟩))
          rw [hst.out] at K_d h_d
          have K6 : Hid (Hs w0 w_d (Ls U8 5 (.slice A_d (m + 8 + 8 + 8 + 8) c_d) (XB2 ++ (ps.take (i + 1)).flatMap paneB) :: Blk p (.cells #[.int .i64 tk, .int .i64 of, .int .i64 mk, .slice A1 n1 c1, .slice (some ⟨g, off, none⟩) n2 c2, .slice A3 n3 c3] 55) :: R)) := K_d.at1.tail
          have h6 := Lib.hid h_d
          clear K_a K_b K_c K_d h_a h_b h_c h_d SS KB hst hcur
          go_wp2_with fail
          go_roundg (n2 - (i + 1))
          case measure => have := hg.out; omega
          case rel => exact ⟨i + 1, A_d, m + 8 + 8 + 8 + 8, c_d, _, by have := hg.out; omega, by go_num, rfl, hmm, h6, Lib.hid rfl, K6⟩
        · have hi1 : decide ((i : Int) < (n2 : Int)) = false := by rw [decide_eq_false_iff_not]; omega
          have hi2 : decide (i < n2) = false := by rw [decide_eq_false_iff_not]; omega
          have hfx : cur = XC := by
            rw [hcur.out, List.take_of_length_le (by have := l2.out; omega)]
            exact hXC.out
          rw [hfx] at hcm K
          have hmv : m = mC := by rw [← hcm.out]; exact hlC.out
          subst hmv
          have q5 : wr.cell? ⟨p, 5, none⟩ = some (.slice A3 n3 c3) := K.out.at1.cellOf 5 rfl
          clear hlt hfx hcur hg hm hiN
          go_wp2_with fail
          refine (put41N m (.slice AL m cL) XC hcm.out (n3 : Int) hm3.out 2 h2_.out 2 c2_ wr w0 _ K.out hmC9.out).mono ?_
          rintro e w5 ⟨A5, c5, rfl, h5, K5⟩
          rw [hXC2.out] at h5 K5
          replace K5 := Lib.hid K5
          replace h5 := Lib.hid h5
          clear K q4 q5 hi1 hi2
          go_wp2_with fail
          go_loopg [4, 8] n3 (fun g lv iv wr => ∃ (i : Nat) (A : Option Addr) (m c : Nat) (cur : List Int), g + i = n3 ∧ iv = .int .i64 i ∧ lv = .slice A m c ∧ m ≤ 900002 + 27 * i ∧ Hid (cur.length = m) ∧ Hid ((os.take i).any badO = false) ∧ Hid (cur = XC2 ++ (os.take i).flatMap outB) ∧ Hid (Hs w0 wr (Ls U8 5 (.slice A m c) cur :: Blk p (.cells #[.int .i64 tk, .int .i64 of, .int .i64 mk, .slice A1 n1 c1, .slice A2 n2 c2, .slice A3 n3 c3] 55) :: R)))
          case atStart => exact ⟨0, A5, m + 2, c5, _, rfl, rfl, rfl, by omega, h5, Lib.hid (by rw [List.take_zero]; rfl), Lib.hid (by rw [List.take_zero, List.flatMap_nil, List.append_nil]), K5⟩
          case round =>
            clear K5 h5
            obtain ⟨i, AL, m, cL, cur, hg, rfl, rfl, hm, hcm, hany, hcur, K⟩ := hrel
            have hiN : i ≤ n3 := by omega
            replace hg := Lib.hid hg
            have q5 : wr.cell? ⟨p, 5, none⟩ = some (.slice A3 n3 c3) := K.out.at1.cellOf 5 rfl
            rcases Nat.lt_or_ge i n3 with hlt | hlt
            · have hi0 : (0 : Int) ≤ (i : Int) := by omega
              have hi1 : (i : Int) < (n3 : Int) := by omega
              have hwi : IntKind.i64.wrap ((i : Int) + 1) = ((i + 1 : Nat) : Int) := by rw [IntWalk.i64_in _ (by omega)]; omega
              obtain ⟨⟨ch, k, ⟨r1, r2, r3⟩, mr, nn, o⟩, hx⟩ : ∃ x, os[i]? = some x := ⟨_, List.getElem?_eq_getElem (by have := l3.out; omega)⟩
              have hmem := List.mem_of_getElem? hx
              have hUx := hU0.out _ hmem
              obtain ⟨g, off, rfl⟩ := (h30.out wr K.out.tail.tail).some_ (by have := l3.out; omega)
              have s0 : wr.cell? ⟨g, off + i * 8 + 0, none⟩ = some (.int .i64 ch) := (h30.out wr K.out.tail.tail).cell hx 0 rfl
              have s1 : wr.cell? ⟨g, off + i * 8 + 1, none⟩ = some (.int .i64 k) := (h30.out wr K.out.tail.tail).cell hx 1 rfl
              have s2 : wr.cell? ⟨g, off + i * 8 + 2, none⟩ = some (.int .i64 r1) := (h30.out wr K.out.tail.tail).cell hx 2 rfl
              have s3 : wr.cell? ⟨g, off + i * 8 + 3, none⟩ = some (.int .i64 r2) := (h30.out wr K.out.tail.tail).cell hx 3 rfl
              have s4 : wr.cell? ⟨g, off + i * 8 + 4, none⟩ = some (.int .i64 r3) := (h30.out wr K.out.tail.tail).cell hx 4 rfl
              have s5 : wr.cell? ⟨g, off + i * 8 + 5, none⟩ = some (.int .i64 mr) := (h30.out wr K.out.tail.tail).cell hx 5 rfl
              have s6 : wr.cell? ⟨g, off + i * 8 + 6, none⟩ = some (.int .u64 nn) := (h30.out wr K.out.tail.tail).cell hx 6 rfl
              have s7 : wr.cell? ⟨g, off + i * 8 + 7, none⟩ = some (.bool o) := (h30.out wr K.out.tail.tail).cell hx 7 rfl
              simp only [Nat.add_zero] at s0
              have hx0 := Lib.hid hx
              have T := Lib.hid (fun w R (H : Hs w0 w R) => rframe20 (k, (r1, r2, r3), mr, nn, o) hUx w w0 R H)
              obtain ⟨FL, hFL⟩ : ∃ x, fout (k, (r1, r2, r3), mr, nn, o) = x := ⟨_, rfl⟩
              obtain ⟨fe, hfe⟩ : ∃ x, ferr (k, (r1, r2, r3), mr, nn, o) = x := ⟨_, rfl⟩
              rw [hFL, hfe] at T
              replace T : Hid (∀ w R, Hs w0 w R → Calls Try.prog 20 #[.agg #[.int .i64 k, .int .i64 r1, .int .i64 r2, .int .i64 r3, .int .i64 mr, .int .u64 nn, .bool o]] w (BE w0 R FL fe)) := T
              obtain ⟨nf, hnf⟩ : ∃ n, FL.length = n := ⟨_, rfl⟩
              by_cases hr : Right (k, (r1, r2, r3), mr, nn, o)
              · have hfe0 : fe = 0 := by rw [← hfe]; exact if_pos hr
                have hFL0 : FL = frb (k, (r1, r2, r3), mr, nn, o) := by rw [← hFL]; exact if_pos hr
                subst hfe0
                obtain ⟨sb, hsb⟩ : ∃ b, decide (0 ≤ ch ∧ ch ≤ 65535) = b := ⟨_, rfl⟩
                have Z := Lib.hid (small66 ch)
                rw [hsb] at Z
                have hbo : badO (ch, (k, (r1, r2, r3), mr, nn, o)) = !sb := by
                  unfold badO
                  dsimp only
                  rw [decide_eq_true hr, ← hsb]
                  by_cases hh : 0 ≤ ch ∧ ch ≤ 65535
                  · rw [decide_eq_true hh, decide_eq_false (show ¬ ch < 0 by omega), decide_eq_false (show ¬ 65535 < ch by omega)]; rfl
                  · rw [decide_eq_false hh]
                    by_cases hh2 : ch < 0
                    · rw [decide_eq_true hh2]; rfl
                    · rw [decide_eq_false hh2, decide_eq_true (show 65535 < ch by omega)]; rfl
                have hfl27 := outB_len (ch, (k, (r1, r2, r3), mr, nn, o))
                unfold outB at hfl27
                dsimp only at hfl27
                rw [List.length_append, put_len, ← hFL0, hnf] at hfl27
                replace hFL0 := Lib.hid hFL0
                replace hnf := Lib.hid hnf
                clear hx hr hfe hFL hUx
                cases sb with
                | false =>
                  obtain ⟨rfl, rfl⟩ := Y1.out (List.any_eq_true.2 ⟨_, hmem, hbo⟩)
                  clear hbo hmem hsb hfl27
                  go_wp2_with fail
                  refine (T.out wr _ K.out).mono ?_
                  rintro e w5 ⟨A5, c5, rfl, K5⟩
                  replace K5 := Lib.hid K5
                  have d5 : w5.cell? ⟨p, 5, none⟩ = some (.slice (some ⟨g, off, none⟩) n3 c3) := K5.out.at2.cellOf 5 rfl
                  have d0 : w5.cell? ⟨g, off + i * 8 + 0, none⟩ = some (.int .i64 ch) := (h30.out w5 K5.out.tail.tail.tail).cell hx0.out 0 rfl
                  rw [Nat.add_zero] at d0
                  clear K s0 s1 s2 s3 s4 s5 s6 s7 q5 T
                  go_wp2_with fail
                  refine (Z.out w5).mono ?_
                  rintro e w6 ⟨rfl, rfl⟩
                  go_wp2_with fail
                  go_ret2
                  exact ⟨none, 0, rfl, K5.out.tail.tail.tail.ls_nil _ _⟩
                | true =>
                  have hch := of_decide_eq_true hsb
                  have hno : Hid ((os.take (i + 1)).any badO = false) := by show _ = _; rw [take_one hx0.out, List.any_append, hany.out, List.any_cons, hbo]; rfl
                  have hst : Hid ((cur ++ put 2 ch) ++ FL = XC2 ++ (os.take (i + 1)).flatMap outB) := by
                    show _ = _
                    rw [hcur.out, take_one hx0.out, List.flatMap_append, List.flatMap_cons, List.flatMap_nil, List.append_nil, hFL0.out]
                    unfold outB
                    simp only [List.append_assoc]
                  have hcu : Hid (0 ≤ ch ∧ ch < 18446744073709551616) := by show _ ∧ _; omega
                  have hxc : IntKind.u64.wrap ch = ch := by rw [IntKind.wrap_u64]; omega
                  have hm9 : Hid (m ≤ 1000000000) := by show _ ≤ _; omega
                  have hmm : m + 2 + nf ≤ 900002 + 27 * (i + 1) := by omega
                  have hmb9 : (m + 2 + nf) * 1 ≤ 140737488355328 := by omega
                  clear hbo hmem hsb hfl27 hany hcur hch
                  go_wp2_with fail
                  refine (T.out wr _ K.out).mono ?_
                  rintro e w5 ⟨A5, c5, rfl, K5⟩
                  replace K5 := Lib.hid K5
                  have d5 : w5.cell? ⟨p, 5, none⟩ = some (.slice (some ⟨g, off, none⟩) n3 c3) := K5.out.at2.cellOf 5 rfl
                  have d0 : w5.cell? ⟨g, off + i * 8 + 0, none⟩ = some (.int .i64 ch) := (h30.out w5 K5.out.tail.tail.tail).cell hx0.out 0 rfl
                  rw [Nat.add_zero] at d0
                  clear K s0 s1 s2 s3 s4 s5 s6 s7 q5 T
                  rw [hnf.out] at K5 ⊢
                  go_wp2_with fail
                  refine (Z.out w5).mono ?_
                  rintro e w6 ⟨rfl, rfl⟩
                  go_wp2_with fail
                  refine (put41N m (.slice AL m cL) cur hcm.out ch hcu.out 2 h2_.out 2 c2_ w5 w0 _ K5.out.at1 hm9.out).mono ?_
                  rintro e w7 ⟨A7, c7, rfl, h7, K7⟩
                  replace K7 := Lib.hid K7
                  have hl7 : Hid ((cur ++ put 2 ch).length + FL.length = m + 2 + nf) := by show _ = _; rw [h7, hnf.out]
                  have hl8 : Hid (((cur ++ put 2 ch) ++ FL).length = m + 2 + nf) := by show _ = _; rw [List.length_append]; exact hl7.out
                  clear K5 h7 d5 d0 Z
                  go_wp2_with (at_builtin; refine wpList_appendN (m + 2 + nf) rfl (.tmp 150) (.tmp 151) 22 rfl 5 _ 1 1 Try.underlying22 infoB8 rfl (by decide) (by decide) rfl rfl _ rfl K7.out K7.out.at1.ls_rd hmb9 hl7.out ?_)
                  intro A8 c8 w8 K8
                  rw [← List.append_assoc, hst.out] at K8
                  rw [hst.out] at hl8
                  have K9 := Lib.hid (K8.at1.tail)
                  clear K7 K8 hl7 hst
                  go_wp2_with fail
                  go_roundg (n3 - (i + 1))
                  case measure => have := hg.out; omega
                  case rel => exact ⟨i + 1, A8, m + 2 + nf, c8, _, by have := hg.out; omega, by go_num, rfl, hmm, hl8, hno, Lib.hid rfl, K9⟩
              · have hfe0 : fe = 10 := by rw [← hfe]; exact if_neg hr
                subst hfe0
                have hbo : badO (ch, (k, (r1, r2, r3), mr, nn, o)) = true := by
                  unfold badO
                  dsimp only
                  rw [decide_eq_false hr]
                  simp
                obtain ⟨rfl, rfl⟩ := Y1.out (List.any_eq_true.2 ⟨_, hmem, hbo⟩)
                clear hx hr hfe hFL hUx hbo hmem
                go_wp2_with fail
                refine (T.out wr _ K.out).mono ?_
                rintro e w5 ⟨A5, c5, rfl, K5⟩
                replace K5 := Lib.hid K5
                have d5 : w5.cell? ⟨p, 5, none⟩ = some (.slice (some ⟨g, off, none⟩) n3 c3) := K5.out.at2.cellOf 5 rfl
                have d0 : w5.cell? ⟨g, off + i * 8 + 0, none⟩ = some (.int .i64 ch) := (h30.out w5 K5.out.tail.tail.tail).cell hx0.out 0 rfl
                rw [Nat.add_zero] at d0
                clear K s0 s1 s2 s3 s4 s5 s6 s7 q5 T
                go_wp2_with fail
                go_ret2
                exact ⟨none, 0, rfl, K5.out.tail.tail.tail.ls_nil _ _⟩
            · have hi1 : decide ((i : Int) < (n3 : Int)) = false := by rw [decide_eq_false_iff_not]; omega
              have hi2 : decide (i < n3) = false := by rw [decide_eq_false_iff_not]; omega
              have htk : os.take i = os := List.take_of_length_le (by have := l3.out; omega)
              rw [htk] at hany hcur
              obtain ⟨rfl, rfl⟩ := Y2.out hany.out
              rw [← hfin.out] at hcur
              rw [hcur.out] at hcm K
              clear hlt htk
              go_wp2_with fail
              go_ret2
              refine ⟨AL, cL, ?_, ?_⟩
              · rw [hcm.out]; rfl
              · rw [hcm.out]; exact K.out.at1.tail


end Go.Proofs.Ytjdkpogkhecijaa

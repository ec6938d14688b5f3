import Derived.Test.YtjdkpogkhecijaaUe
import Derived.IntWalk
import Derived.Test.YtjdkpogkhecijaaProg
import Derived.Test.YtjdkpogkhecijaaLs
import Derived.Outline
import Derived.StillTailTactics
import Derived.Deep.DeepCutAuto
import Derived.Deep.CutBlock
import Derived.Deep.LoopGhost
import Derived.Deep.QuietTactic
import Derived.BigQuiet
import Derived.Deep.RegionHeld3
import Derived.Deep.RegionLaw
set_option linter.unusedVariables false
set_option linter.unusedSimpArgs false
namespace Go.Proofs.Ytjdkpogkhecijaa
open Go.RowKit
theorem flat_len {α : Type} {f : α → List Int} (l : List α) (k : Nat) (h : ∀ x, (f x).length = k) : (l.flatMap f).length = k * l.length := by
  induction l with
  | nil => rfl
  | cons x r ih => rw [List.flatMap_cons, List.length_append, h, ih, List.length_cons, Nat.mul_add, Nat.mul_one, Nat.add_comm]
set_option maxRecDepth 100000 in
set_option maxHeartbeats 4000000 in
theorem snap27 (tk of mk : Int) (A1 A2 A3 : Option Addr) (n1 c1 n2 c2 n3 c3 : Nat) (ms : List Int) (ps : List Pn4) (os : List Ot) (w w0 : World) (R : List HP) (H : Hs w0 w R) (h1 : ∀ w', Hs w0 w' R → RdL (Enc.num .i64) w' (.slice A1 n1 c1) ms) (h2 : ∀ w', Hs w0 w' R → RdL ((Enc.num .i64).pair (((Enc.num .i64).pair (Enc.num .i64)).pair (Enc.num .i64))) w' (.slice A2 n2 c2) ps) (h3 : ∀ w', Hs w0 w' R → RdL ((Enc.num .i64).pair ((Enc.num .i64).pair (((Enc.num .i64).pair ((Enc.num .i64).pair (Enc.num .i64))).pair ((Enc.num .i64).pair ((Enc.num .u64).pair Enc.flag))))) w' (.slice A3 n3 c3) os) (hU : ∀ x ∈ os, U64 x.2.2.2.2.1) :
    Calls Try.prog 27 #[.agg #[.int .i64 tk, .int .i64 of, .int .i64 mk, .slice A1 n1 c1, .slice A2 n2 c2, .slice A3 n3 c3]] w (BE w0 R (snOut (tk, of, mk, ms, ps, os)) (snErr (tk, of, mk, ms, ps, os))) := by
  have l1 := (h1 w H).caps.1
  have l2 := (h2 w H).caps.1
  have l3 := (h3 w H).caps.1
  have K := Lib.hid (H.alloc (.cells #[.int .i64 tk, .int .i64 of, .int .i64 mk, .slice A1 n1 c1, .slice A2 n2 c2, .slice A3 n3 c3] 55))
  obtain ⟨L, hL⟩ : ∃ L, snOut (tk, of, mk, ms, ps, os) = L := ⟨_, rfl⟩
  obtain ⟨er, hE⟩ : ∃ er, snErr (tk, of, mk, ms, ps, os) = er := ⟨_, rfl⟩
  rw [hL, hE]
  have XB : 4096 < n2 ∨ 4096 < n3 ∨ 65535 < n1 ↔ snBig (tk, of, mk, ms, ps, os) = true := by unfold snBig; simp only [Bool.or_eq_true, decide_eq_true_eq]; omega
  have X1 : Hid (4096 < n2 ∨ 4096 < n3 ∨ 65535 < n1 → L = [] ∧ er = 12) := fun h => by
    have hb := XB.1 h
    exact ⟨by rw [← hL]; exact if_pos hb, by rw [← hE]; exact if_pos hb⟩
  have X2 : Hid (¬ (4096 < n2 ∨ 4096 < n3 ∨ 65535 < n1) → tk < 0 ∨ 65535 < tk ∨ of < 0 ∨ 65535 < of → L = [] ∧ er = 10) := fun h hb => by
    have h := fun x => h (XB.2 x)
    have hb : snBad (tk, of, mk, ms, ps, os) = true := by unfold snBad; simp only [Bool.or_eq_true, decide_eq_true_eq]; omega
    exact ⟨by rw [← hL]; exact (if_neg h).trans (if_pos hb), by rw [← hE]; exact (if_neg h).trans (if_pos hb)⟩
  have X3 : Hid (¬ (4096 < n2 ∨ 4096 < n3 ∨ 65535 < n1) → ¬ (tk < 0 ∨ 65535 < tk ∨ of < 0 ∨ 65535 < of) → (os.any badO = true → L = [] ∧ er = 10) ∧ (os.any badO = false → L = snB (tk, of, mk, ms, ps, os) ∧ er = 0)) := fun h hn => by
    have h := fun x => h (XB.2 x)
    have hb : snBad (tk, of, mk, ms, ps, os) = os.any badO := by
      unfold snBad
      dsimp only
      rw [decide_eq_false (show ¬ tk < 0 by omega), decide_eq_false (show ¬ 65535 < tk by omega), decide_eq_false (show ¬ of < 0 by omega), decide_eq_false (show ¬ 65535 < of by omega)]
      rfl
    refine ⟨fun ha => ?_, fun ha => ?_⟩
    · rw [ha] at hb
      exact ⟨by rw [← hL]; exact (if_neg h).trans (if_pos hb), by rw [← hE]; exact (if_neg h).trans (if_pos hb)⟩
    · have hb : ¬ snBad (tk, of, mk, ms, ps, os) = true := by rw [hb, ha]; simp
      exact ⟨by rw [← hL]; exact (if_neg h).trans (if_neg hb), by rw [← hE]; exact (if_neg h).trans (if_neg hb)⟩
  have h10 := Lib.hid h1
  have h20 := Lib.hid h2
  have h30 := Lib.hid h3
  have hU0 := Lib.hid hU
  replace l1 := Lib.hid l1
  replace l2 := Lib.hid l2
  replace l3 := Lib.hid l3
  clear H h1 h2 h3 hU hL hE XB
  have c8_ : Hid (((8 : Nat) : Int) = 8) := rfl
  have c2_ : Hid (((2 : Nat) : Int) = 2) := rfl
  have h8 : Hid (8 ≤ 8) := Nat.le_refl 8
  have h2_ : Hid (2 ≤ 8) := by show _ ≤ _; omega
  obtain ⟨z, hz⟩ : ∃ z : Nat, z = 0 := ⟨_, rfl⟩
  have hz0 : Hid (z ≤ 1000000000) := by show _ ≤ _; omega
  have hz1 : Hid (z + 2 ≤ 1000000000) := by show _ ≤ _; omega
  have hz2 : Hid (z + 2 + 2 ≤ 1000000000) := by show _ ≤ _; omega
  have hzb : z + 2 + 2 + 8 ≤ 12 := by omega
  have hL0 : Hid (([] : List Int).length = z) := by show _ = _; rw [hz]; rfl
  have hxm : IntKind.u64.wrap mk = u64 mk := by unfold u64; rw [IntKind.wrap_u64]
  clear hz
  go_enter Try.func27, Try.ntmps27
  go_upto_region 1 with (fail)
  generalize World.alloc _ _ = w1 at K ⊢
  generalize w.heap.size = p at K ⊢
  have q0 : w1.cell? ⟨p, 0, none⟩ = some (.int .i64 tk) := K.out.cellOf 0 rfl
  have q1 : w1.cell? ⟨p, 1, none⟩ = some (.int .i64 of) := K.out.cellOf 1 rfl
  have q2 : w1.cell? ⟨p, 2, none⟩ = some (.int .i64 mk) := K.out.cellOf 2 rfl
  have q3 : w1.cell? ⟨p, 3, none⟩ = some (.slice A1 n1 c1) := K.out.cellOf 3 rfl
  have q4 : w1.cell? ⟨p, 4, none⟩ = some (.slice A2 n2 c2) := K.out.cellOf 4 rfl
  have q5 : w1.cell? ⟨p, 5, none⟩ = some (.slice A3 n3 c3) := K.out.cellOf 5 rfl
  by_cases g1 : 4096 < n2
  · have e1 : decide ((4096 : Int) < (n2 : Int)) = true := by rw [decide_eq_true_eq]; omega
    have f1 : decide (4096 < n2) = true := by rw [decide_eq_true_eq]; omega
    obtain ⟨rfl, rfl⟩ := X1.out (by omega)
    clear g1 X2 X3
    go_wp2_with fail
    go_ret2
    exact ⟨none, 0, rfl, K.out.tail.ls_nil _ _⟩
  have e1 : decide ((4096 : Int) < (n2 : Int)) = false := by rw [decide_eq_false_iff_not]; omega
  have f1 : decide (4096 < n2) = false := by rw [decide_eq_false_iff_not]; omega
  by_cases g2 : 4096 < n3
  · have e2 : decide ((4096 : Int) < (n3 : Int)) = true := by rw [decide_eq_true_eq]; omega
    have f2 : decide (4096 < n3) = true := by rw [decide_eq_true_eq]; omega
    obtain ⟨rfl, rfl⟩ := X1.out (by omega)
    clear g1 g2 X2 X3
    go_wp2_with fail
    go_ret2
    exact ⟨none, 0, rfl, K.out.tail.ls_nil _ _⟩
  have e2 : decide ((4096 : Int) < (n3 : Int)) = false := by rw [decide_eq_false_iff_not]; omega
  have f2 : decide (4096 < n3) = false := by rw [decide_eq_false_iff_not]; omega
  by_cases g3 : 65535 < n1
  · have e3 : decide ((65535 : Int) < (n1 : Int)) = true := by rw [decide_eq_true_eq]; omega
    have f3 : decide (65535 < n1) = true := by rw [decide_eq_true_eq]; omega
    obtain ⟨rfl, rfl⟩ := X1.out (by omega)
    clear g1 g2 g3 X2 X3
    go_wp2_with fail
    go_ret2
    exact ⟨none, 0, rfl, K.out.tail.ls_nil _ _⟩
  have e3 : decide ((65535 : Int) < (n1 : Int)) = false := by rw [decide_eq_false_iff_not]; omega
  have f3 : decide (65535 < n1) = false := by rw [decide_eq_false_iff_not]; omega
  by_cases g4 : tk < 0
  · have e4 : decide (tk < 0) = true := decide_eq_true g4
    obtain ⟨rfl, rfl⟩ := X2.out (by omega) (by omega)
    clear g1 g2 g3 g4 X3
    go_wp2_with fail
    go_ret2
    exact ⟨none, 0, rfl, K.out.tail.ls_nil _ _⟩
  have e4 : decide (tk < 0) = false := decide_eq_false g4
  by_cases g5 : 65535 < tk
  · have e5 : decide (65535 < tk) = true := decide_eq_true g5
    obtain ⟨rfl, rfl⟩ := X2.out (by omega) (by omega)
    clear g1 g2 g3 g4 g5 X3
    go_wp2_with fail
    go_ret2
    exact ⟨none, 0, rfl, K.out.tail.ls_nil _ _⟩
  have e5 : decide (65535 < tk) = false := decide_eq_false g5
  by_cases g6 : of < 0
  · have e6 : decide (of < 0) = true := decide_eq_true g6
    obtain ⟨rfl, rfl⟩ := X2.out (by omega) (by omega)
    clear g1 g2 g3 g4 g5 g6 X3
    go_wp2_with fail
    go_ret2
    exact ⟨none, 0, rfl, K.out.tail.ls_nil _ _⟩
  have e6 : decide (of < 0) = false := decide_eq_false g6
  by_cases g7 : 65535 < of
  · have e7 : decide (65535 < of) = true := decide_eq_true g7
    obtain ⟨rfl, rfl⟩ := X2.out (by omega) (by omega)
    clear g1 g2 g3 g4 g5 g6 g7 X3
    go_wp2_with fail
    go_ret2
    exact ⟨none, 0, rfl, K.out.tail.ls_nil _ _⟩
  have e7 : decide (65535 < of) = false := decide_eq_false g7
  obtain ⟨Y1, Y2⟩ := X3.out (by omega) (by omega)
  have b1 : n1 ≤ 65535 := by omega
  have b2 : n2 ≤ 4096 := by omega
  have b3 : n3 ≤ 4096 := by omega
  have b4 : 0 ≤ tk ∧ tk ≤ 65535 := by omega
  have b5 : 0 ≤ of ∧ of ≤ 65535 := by omega
  replace Y1 := Lib.hid Y1
  replace Y2 := Lib.hid Y2
  have T := Lib.hid (contains49 (.slice A3 n3 c3) os w1 w0 _ K.out (fun w' h => h30.out w' h.tail) (by have := l3.out; omega) (fun _ _ => trivial))
  clear g1 g2 g3 g4 g5 g6 g7 X1 X2 X3
  go_wp2_with fail
  refine T.out.mono ?_
  clear T
  cases hab : os.any badO with
  | true =>
    obtain ⟨rfl, rfl⟩ := Y1.out hab
    rintro e w2 ⟨rfl, K2⟩
    replace K2 := Lib.hid K2
    clear Y2 hab
    go_wp2_with fail
    go_ret2
    exact ⟨none, 0, rfl, K2.out.tail.ls_nil _ _⟩
  | false =>
    obtain ⟨hLL, rfl⟩ := Y2.out hab
    rintro e w2 ⟨rfl, K2⟩
    replace K2 := Lib.hid K2
    have KQ := Lib.hid (K2.out.ls_nil U8 5)
    have w8 : Hid (0 ≤ tk ∧ tk < 18446744073709551616) := by show _ ∧ _; omega
    have w9 : Hid (0 ≤ of ∧ of < 18446744073709551616) := by show _ ∧ _; omega
    have hx1 : IntKind.u64.wrap tk = tk := by rw [IntKind.wrap_u64]; omega
    have hx2 : IntKind.u64.wrap of = of := by rw [IntKind.wrap_u64]; omega
    have hch : Hid (∀ x ∈ os, (0 ≤ x.1 ∧ x.1 ≤ 65535) ∧ U64 x.2.2.2.2.1) := fun x hx => by
      have h5 := List.any_eq_false.1 hab x hx
      unfold badO at h5
      simp only [Bool.or_eq_true, decide_eq_true_eq, not_or] at h5
      exact ⟨by omega, hU0.out x hx⟩
    obtain ⟨XA, hXA⟩ : ∃ X, ((([] : List Int) ++ put 2 tk) ++ put 2 of) ++ put 8 (u64 mk) = X := ⟨_, rfl⟩
    obtain ⟨XB, hXB⟩ : ∃ X, XA ++ (put 2 (ms.length : Int) ++ ms.flatMap markB) = X := ⟨_, rfl⟩
    obtain ⟨XC, hXC⟩ : ∃ X, XB ++ (put 2 (ps.length : Int) ++ ps.flatMap paneB) = X := ⟨_, rfl⟩
    have hfin : Hid (XC ++ (put 2 (os.length : Int) ++ os.flatMap outB) = L) := by show _ = _; rw [hLL, ← hXC, ← hXB, ← hXA]; unfold snB; simp only [List.append_assoc, List.nil_append]
    have hXAl : XA.length = 12 := by rw [← hXA]; simp only [List.length_append, put_len, List.length_nil]
    have hXBl : XB.length = 12 + (2 + 8 * n1) := by rw [← hXB, List.length_append, List.length_append, hXAl, put_len, flat_len _ 8 markB_len, l1.out]
    have hXCl : XC.length = 12 + (2 + 8 * n1) + (2 + 32 * n2) := by rw [← hXC, List.length_append, List.length_append, hXBl, put_len, flat_len _ 32 paneB_len, l2.out]
    obtain ⟨mB, hmB⟩ : ∃ m, XB.length = m := ⟨_, rfl⟩
    obtain ⟨mC, hmC⟩ : ∃ m, XC.length = m := ⟨_, rfl⟩
    have hmBb : mB ≤ 600000 := by omega
    have hmCb : mC ≤ 900000 := by omega
    have Q1 := Lib.hid (fun A n c w H hn hl => list50 A n c XA (.slice A1 n1 c1) ms w w0 (Blk p (.cells #[.int .i64 tk, .int .i64 of, .int .i64 mk, .slice A1 n1 c1, .slice A2 n2 c2, .slice A3 n3 c3] 55) :: R) H hn (fun w' h => h10.out w' h.tail) (by have := l1.out; omega) hl (fun _ _ => trivial))
    have Q2 := Lib.hid (fun A n c w H hn hl => list52 A n c XB (.slice A2 n2 c2) ps w w0 (Blk p (.cells #[.int .i64 tk, .int .i64 of, .int .i64 mk, .slice A1 n1 c1, .slice A2 n2 c2, .slice A3 n3 c3] 55) :: R) H hn (fun w' h => h20.out w' h.tail) (by have := l2.out; omega) hl (fun _ _ => trivial))
    have Q3 := Lib.hid (fun A n c w H hn hl => list54 A n c XC (.slice A3 n3 c3) os w w0 (Blk p (.cells #[.int .i64 tk, .int .i64 of, .int .i64 mk, .slice A1 n1 c1, .slice A2 n2 c2, .slice A3 n3 c3] 55) :: R) H hn (fun w' h => h30.out w' h.tail) (by have := l3.out; omega) hl hch.out)
    rw [hXB, hmB] at Q1
    rw [hXC, hmC] at Q2
    rw [hfin.out] at Q3
    have hmB := Lib.hid hmB
    have hmC := Lib.hid hmC
    replace hXA := Lib.hid hXA
    clear hLL
    have SS : Hid (∀ X w', Hs w0 w' (X :: Blk p (.cells #[.int .i64 tk, .int .i64 of, .int .i64 mk, .slice A1 n1 c1, .slice A2 n2 c2, .slice A3 n3 c3] 55) :: R) → w'.cell? ⟨p, 0, none⟩ = some (.int .i64 tk) ∧ w'.cell? ⟨p, 1, none⟩ = some (.int .i64 of) ∧ w'.cell? ⟨p, 2, none⟩ = some (.int .i64 mk)) := fun X w' h => ⟨h.at1.cellOf 0 rfl, h.at1.cellOf 1 rfl, h.at1.cellOf 2 rfl⟩
    clear K K2 hXB hXC hXAl hXBl hXCl hab b4 b5 hfin hch
    go_upto_region 6 with (fail)
    clear q0 q1 q2 q3 q4 q5
    go_region_held3 (fun w' => w'.cell? ⟨p, 0, none⟩ = some (.int .i64 tk) ∧ w'.cell? ⟨p, 1, none⟩ = some (.int .i64 of) ∧ w'.cell? ⟨p, 2, none⟩ = some (.int .i64 mk))
      (first | with_reducible exact SS.out _ _ KQ.out.drew | with_reducible exact SS.out _ _ K_a | with_reducible exact SS.out _ _ K_b | with_reducible exact SS.out _ _ K_c)
      (first
        | (go_at_call 40; (with_reducible refine (number40N (z) (.slice none 0 0) ([]) hL0.out (tk) w8.out 2 h2_.out 2 c2_ _ w0 _ KQ.out.drew hz0.out).mono ?_); rintro e w_a ⟨A_a, c_a, rfl, h_a, K_a⟩)
        | (go_at_call 40; (with_reducible refine (number40N (z + 2) (.slice A_a (z + 2) c_a) ([] ++ put 2 tk) h_a (of) w9.out 2 h2_.out 2 c2_ _ w0 _ K_a hz1.out).mono ?_); rintro e w_b ⟨A_b, c_b, rfl, h_b, K_b⟩)
        | (go_at_call 40; (with_reducible refine (number40N (z + 2 + 2) (.slice A_b (z + 2 + 2) c_b) (([] ++ put 2 tk) ++ put 2 of) h_b (u64 mk) (u64_lt mk) 8 h8.out 8 c8_ _ w0 _ K_b hz2.out).mono ?_); rintro e w_c ⟨A_c, c_c, rfl, h_c, K_c⟩))
    rw [hXA.out] at K_c h_c
    have KF := Lib.hid K_c
    have h_z := Lib.hid h_c
    have q3 : w_c.cell? ⟨p, 3, none⟩ = some (.slice A1 n1 c1) := K_c.at1.cellOf 3 rfl
    clear K_a K_b K_c h_a h_b h_c SS KQ hXA
    go_wp2_with fail
    refine (Q1.out A_c (z + 2 + 2 + 8) c_c w_c KF.out h_z.out (by omega)).mono ?_
    rintro e w5 ⟨A5, c5, rfl, h5, K5⟩
    have q4 : w5.cell? ⟨p, 4, none⟩ = some (.slice A2 n2 c2) := K5.at1.cellOf 4 rfl
    replace K5 := Lib.hid K5
    clear KF q3 h5 Q1
    go_wp2_with fail
    refine (Q2.out A5 mB c5 w5 K5.out hmB.out (by omega)).mono ?_
    rintro e w6 ⟨A6, c6, rfl, h6, K6⟩
    have q5 : w6.cell? ⟨p, 5, none⟩ = some (.slice A3 n3 c3) := K6.at1.cellOf 5 rfl
    replace K6 := Lib.hid K6
    clear K5 q4 h6 Q2
    go_wp2_with fail
    refine (Q3.out A6 mC c6 w6 K6.out hmC.out (by omega)).mono ?_
    rintro e w7 ⟨A7, c7, rfl, h7, K7⟩
    replace K7 := Lib.hid K7
    clear K6 q5 h7 Q3
    go_wp2_with fail
    go_ret2
    exact ⟨A7, c7, rfl, K7.out.at1.tail⟩
end Go.Proofs.Ytjdkpogkhecijaa

import Derived.Test.YtjdkpogkhecijaaCt
import Derived.IntWalk
import Derived.Test.YtjdkpogkhecijaaProg
import Derived.Test.YtjdkpogkhecijaaLs
import Derived.Outline
import Derived.StillTailTactics
import Derived.Deep.DeepCutAuto
import Derived.Deep.CutBlock
import Derived.Deep.LoopGhost
import Derived.Deep.QuietTactic
import Derived.BigQuiet
import Derived.Deep.RegionHeld3
import Derived.Deep.RegionLaw
set_option linter.unusedVariables false
set_option linter.unusedSimpArgs false
namespace Go.Proofs.Ytjdkpogkhecijaa
open Go.RowKit
set_option maxRecDepth 100000 in
set_option maxHeartbeats 4000000 in
theorem rcontrol22 (c : Ct) (hc : CtWf c) (w w0 : World) (R : List HP) (H : Hs w0 w R) : Calls Try.prog 22 #[ctv c] w (BE w0 R (cout c) (cerr c)) := by
  obtain ⟨k, ep, n, t⟩ := c
  obtain ⟨he, hn⟩ := hc
  have he : Hid (0 ≤ ep ∧ ep < 18446744073709551616) := he
  have hn : Hid (0 ≤ n ∧ n < 18446744073709551616) := hn
  have c8_ : Hid (((8 : Nat) : Int) = 8) := rfl
  have c1_ : Hid (((1 : Nat) : Int) = 1) := rfl
  have c2_ : Hid (((2 : Nat) : Int) = 2) := rfl
  have h8 : Hid (8 ≤ 8) := Nat.le_refl 8
  have h1 : Hid (1 ≤ 8) := by show _ ≤ _; omega
  have h2 : Hid (2 ≤ 8) := by show _ ≤ _; omega
  obtain ⟨z, hz⟩ : ∃ z : Nat, 0 = z := ⟨_, rfl⟩
  have hz0 : Hid (z ≤ 1000000000) := by show _ ≤ _; omega
  have hz1 : Hid (z + 1 ≤ 1000000000) := by show _ ≤ _; omega
  have hz1' : Hid (1 ≤ 1000000000) := by show _ ≤ _; omega
  have hz2 : Hid (z + 1 + 8 ≤ 1000000000) := by show _ ≤ _; omega
  have hz2' : Hid (1 + 8 ≤ 1000000000) := by show _ ≤ _; omega
  have hz3 : Hid (z + 1 + 8 + 8 ≤ 1000000000) := by show _ ≤ _; omega
  have hz3' : Hid (1 + 8 + 8 ≤ 1000000000) := by show _ ≤ _; omega
  have hL0 : Hid (([] : List Int).length = z) := hz
  replace hz := Lib.hid hz
  have hL1 : ∀ x : Int, Hid ([x].length = 1) := fun _ => rfl
  show Calls Try.prog 22 #[.agg #[.int .i64 k, .int .u64 ep, .int .u64 n, .int .i64 t]] w _
  by_cases b0 : k < 1
  · skip
    have hno : Hid (¬ CtOk (k, ep, n, t)) := by show ¬ _; unfold CtOk; dsimp only; omega
    have K := Lib.hid H
    have a1 : decide (k < 1) = true := by rw [decide_eq_true_eq]; omega
    clear H b0
    go_enter Try.func22, Try.ntmps22
    go_wp2_with fail
    go_ret2
    exact bc_wrong hno.out (K.out.alloc_ _)
  by_cases b1 : 6 < k
  · skip
    have hno : Hid (¬ CtOk (k, ep, n, t)) := by show ¬ _; unfold CtOk; dsimp only; omega
    have K := Lib.hid H
    have a1 : decide (k < 1) = false := by rw [decide_eq_false_iff_not]; omega
    have a2 : decide (6 < k) = true := by rw [decide_eq_true_eq]; omega
    clear H b0 b1
    go_enter Try.func22, Try.ntmps22
    go_wp2_with fail
    go_ret2
    exact bc_wrong hno.out (K.out.alloc_ _)
  by_cases b2 : t < 0
  · skip
    have hno : Hid (¬ CtOk (k, ep, n, t)) := by show ¬ _; unfold CtOk; dsimp only; omega
    have K := Lib.hid H
    have a1 : decide (k < 1) = false := by rw [decide_eq_false_iff_not]; omega
    have a2 : decide (6 < k) = false := by rw [decide_eq_false_iff_not]; omega
    have a3 : decide (t < 0) = true := by rw [decide_eq_true_eq]; omega
    clear H b0 b1 b2
    go_enter Try.func22, Try.ntmps22
    go_wp2_with fail
    go_ret2
    exact bc_wrong hno.out (K.out.alloc_ _)
  by_cases b3 : 65535 < t
  · skip
    have hno : Hid (¬ CtOk (k, ep, n, t)) := by show ¬ _; unfold CtOk; dsimp only; omega
    have K := Lib.hid H
    have a1 : decide (k < 1) = false := by rw [decide_eq_false_iff_not]; omega
    have a2 : decide (6 < k) = false := by rw [decide_eq_false_iff_not]; omega
    have a3 : decide (t < 0) = false := by rw [decide_eq_false_iff_not]; omega
    have a4 : decide (65535 < t) = true := by rw [decide_eq_true_eq]; omega
    clear H b0 b1 b2 b3
    go_enter Try.func22, Try.ntmps22
    go_wp2_with fail
    go_ret2
    exact bc_wrong hno.out (K.out.alloc_ _)
  have hyes : Hid (CtOk (k, ep, n, t)) := Lib.hid (by unfold CtOk; dsimp only; omega)
  have a1 : decide (k < 1) = false := by rw [decide_eq_false_iff_not]; omega
  have a2 : decide (6 < k) = false := by rw [decide_eq_false_iff_not]; omega
  have a3 : decide (t < 0) = false := by rw [decide_eq_false_iff_not]; omega
  have a4 : decide (65535 < t) = false := by rw [decide_eq_false_iff_not]; omega
  have hk6 : Hid (0 ≤ k ∧ k < 18446744073709551616) := by show _ ∧ _; omega
  have ht6 : Hid (0 ≤ t ∧ t < 18446744073709551616) := by show _ ∧ _; omega
  have hx1 : IntKind.u64.wrap k = k := by rw [IntKind.wrap_u64]; omega
  have hx2 : IntKind.u64.wrap t = t := by rw [IntKind.wrap_u64]; omega
  have hx3 : IntKind.u8.wrap k = k := by rw [IntKind.wrap_u8']; omega
  have hb0 : 0 ≤ k := by omega
  have hb1 : k ≤ 6 := by omega
  have hb2 : 0 ≤ t := by omega
  have hb3 : t ≤ 65535 := by omega
  clear b0 b1 b2 b3
  have KQ := Lib.hid (H.alloc (.cells #[.int .i64 k, .int .u64 ep, .int .u64 n, .int .i64 t] 39))
  clear H
  go_enter Try.func22, Try.ntmps22
  go_upto_region 1 with (fail)
  generalize World.alloc w _ = w1 at KQ ⊢
  generalize w.heap.size = p at KQ ⊢
  have q0 : w1.cell? ⟨p, 0, none⟩ = some (.int .i64 k) := KQ.out.cellOf 0 rfl
  have q3 : w1.cell? ⟨p, 3, none⟩ = some (.int .i64 t) := KQ.out.cellOf 3 rfl
  go_upto_region 3 with (fail)
  clear q0 q3 a1 a2 a3 a4
  have SS : Hid (∀ X w', Hs w0 w' (X :: Blk p (.cells #[.int .i64 k, .int .u64 ep, .int .u64 n, .int .i64 t] 39) :: R) → w'.cell? ⟨p, 0, none⟩ = some (.int .i64 k) ∧ w'.cell? ⟨p, 1, none⟩ = some (.int .u64 ep) ∧ w'.cell? ⟨p, 2, none⟩ = some (.int .u64 n) ∧ w'.cell? ⟨p, 3, none⟩ = some (.int .i64 t)) := fun X w' h => ⟨h.at1.cellOf 0 rfl, h.at1.cellOf 1 rfl, h.at1.cellOf 2 rfl, h.at1.cellOf 3 rfl⟩
  have SR : Hid (∀ w', Hs w0 w' (Blk p (.cells #[.int .i64 k, .int .u64 ep, .int .u64 n, .int .i64 t] 39) :: R) → w'.cell? ⟨p, 0, none⟩ = some (.int .i64 k) ∧ w'.cell? ⟨p, 1, none⟩ = some (.int .u64 ep) ∧ w'.cell? ⟨p, 2, none⟩ = some (.int .u64 n) ∧ w'.cell? ⟨p, 3, none⟩ = some (.int .i64 t)) := fun w' h => ⟨h.cellOf 0 rfl, h.cellOf 1 rfl, h.cellOf 2 rfl, h.cellOf 3 rfl⟩
  have KL := Lib.hid (KQ.out.ls_lit U8 5 [k] #[.int .u8 k] rfl 1 rfl (by omega)).drew
  go_region_held3 (fun w' => w'.cell? ⟨p, 0, none⟩ = some (.int .i64 k) ∧ w'.cell? ⟨p, 1, none⟩ = some (.int .u64 ep) ∧ w'.cell? ⟨p, 2, none⟩ = some (.int .u64 n) ∧ w'.cell? ⟨p, 3, none⟩ = some (.int .i64 t))
    (first | with_reducible exact SR.out _ KQ.out.drew | with_reducible exact SR.out _ (KQ.out.alloc_ _).drew | with_reducible exact SS.out _ _ K_b | with_reducible exact SS.out _ _ K_c | with_reducible exact SS.out _ _ K_d)
    (first
      | (go_at_call 41; (with_reducible refine (put41N (1) (.slice (some ⟨w1.heap.size, 0, none⟩) 1 1) ([k]) (hL1 k).out (ep) he.out 8 h8.out 8 c8_ _ w0 _ KL.out hz1'.out).mono ?_); rintro e w_b ⟨A_b, c_b, rfl, h_b, K_b⟩)
      | (go_at_call 41; (with_reducible refine (put41N (1 + 8) (.slice A_b (1 + 8) c_b) ([k] ++ put 8 ep) h_b (n) hn.out 8 h8.out 8 c8_ _ w0 _ K_b hz2'.out).mono ?_); rintro e w_c ⟨A_c, c_c, rfl, h_c, K_c⟩)
      | (go_at_call 41; (with_reducible refine (put41N (1 + 8 + 8) (.slice A_c (1 + 8 + 8) c_c) (([k] ++ put 8 ep) ++ put 8 n) h_c (t) ht6.out 2 h2.out 2 c2_ _ w0 _ K_c hz3'.out).mono ?_); rintro e w_d ⟨A_d, c_d, rfl, h_d, K_d⟩))
  have h_z := Lib.hid h_d
  have KF := Lib.hid K_d
  clear K_b h_b K_c h_c K_d h_d SS KQ KL SR
  have hfr : Hid ((([k] ++ put 8 ep) ++ put 8 n) ++ put 2 t = ctb (k, ep, n, t)) := by show _ = _; unfold ctb; rw [show put 1 k = [k] by unfold put put; simp; omega]; simp
  go_wp2_with fail
  go_ret2
  exact bc_right hyes.out hfr.out h_z.out KF.out.at1.tail
end Go.Proofs.Ytjdkpogkhecijaa

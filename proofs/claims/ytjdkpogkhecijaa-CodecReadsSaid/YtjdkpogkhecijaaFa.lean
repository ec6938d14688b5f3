import Derived.Test.YtjdkpogkhecijaaP2
import Derived.Test.YtjdkpogkhecijaaRr
import Derived.Test.YtjdkpogkhecijaaPa
import Derived.IntWalk
import Derived.Test.YtjdkpogkhecijaaProg
import Derived.Test.YtjdkpogkhecijaaLs
import Derived.Outline
import Derived.StillTailTactics
import Derived.Deep.DeepCutAuto
import Derived.Deep.CutBlock
import Derived.Deep.LoopGhost
import Derived.Deep.QuietTactic
import Derived.BigQuiet
import Derived.Deep.RegionHeld3
import Derived.Deep.RegionLaw
set_option linter.unusedVariables false
set_option linter.unusedSimpArgs false
namespace Go.Proofs.Ytjdkpogkhecijaa
open Go.RowKit
set_option maxRecDepth 100000 in
set_option maxHeartbeats 1600000 in
theorem right44 (f : Fr) (w w0 : World) (R : List HP) (H : Hs w0 w R) : Calls Try.prog 44 #[frv f] w fun e w' => e = .returned (.bool (decide (Right f))) ∧ Hs w0 w' R := by
  obtain ⟨k, ⟨r1, r2, r3⟩, m, n, o⟩ := f
  show Calls Try.prog 44 #[.agg #[.int .i64 k, .int .i64 r1, .int .i64 r2, .int .i64 r3, .int .i64 m, .int .u64 n, .bool o]] w _
  by_cases k1 : k = 1
  · subst k1
    have K := Lib.hid H
    clear H
    go_enter Try.func44, Try.ntmps44
    go_wp2_with fail
    all_goals (go_ret; exact ⟨congrArg (fun b => Ending.returned (.bool b)) (by unfold Right; simp_all), (K.out.alloc_ _).alloc_ _⟩)
  by_cases k2 : k = 2
  · subst k2
    have K := Lib.hid H
    clear H
    go_enter Try.func44, Try.ntmps44
    go_wp2_with fail
    all_goals (go_ret; exact ⟨congrArg (fun b => Ending.returned (.bool b)) (by unfold Right; simp_all), (K.out.alloc_ _).alloc_ _⟩)
  by_cases k3 : k = 3
  · subst k3
    have K := Lib.hid H
    clear H
    go_enter Try.func44, Try.ntmps44
    go_upto_region 9 with (fail)
    go_region
    all_goals (go_wp2_with fail)
    all_goals (go_ret; exact ⟨congrArg (fun b => Ending.returned (.bool b)) (by unfold Right; simp_all), ((K.out.alloc_ _).alloc_ _).drew⟩)
  have a1 : (k == 1) = false := by rw [beq_eq_false_iff_ne]; exact k1
  have a2 : (k == 2) = false := by rw [beq_eq_false_iff_ne]; exact k2
  have a3 : (k == 3) = false := by rw [beq_eq_false_iff_ne]; exact k3
  have K := Lib.hid H
  have hno : Hid (decide (Right (k, (r1, r2, r3), m, n, o)) = false) := by show _ = _; unfold Right; simp [k1, k2, k3]
  clear H k1 k2 k3
  go_enter Try.func44, Try.ntmps44
  go_wp2_with fail
  go_ret
  exact ⟨by rw [hno.out]; rfl, (K.out.alloc_ _).alloc_ _⟩
theorem put1 (k : Int) : put 1 k = [k % 256] := by unfold put put; simp
set_option maxRecDepth 100000 in
set_option maxHeartbeats 1600000 in
theorem frame45 (v : Value) (bs : List Int) (f : Fr) (hf : U64 f.2.2.2.1) (w w0 : World) (R : List HP) (H : Hs w0 w (Ls U8 5 v bs :: R)) (hl : bs.length ≤ 500000000) :
    Calls Try.prog 45 #[v, frv f] w fun e w' => ∃ A c, e = .returned (.slice A (bs ++ frb f).length c) ∧ Hs w0 w' (Ls U8 5 (.slice A (bs ++ frb f).length c) (bs ++ frb f) :: R) := by
  obtain ⟨A, c, rfl⟩ := H.ls_form
  obtain ⟨N, hN⟩ : ∃ N, bs.length = N := ⟨_, rfl⟩
  obtain ⟨k, ⟨r1, r2, r3⟩, m, n, o⟩ := f
  obtain ⟨hn0, hn1⟩ := hf
  dsimp only at hn0 hn1
  rw [hN] at hl H ⊢
  show Calls Try.prog 45 #[.slice A N c, .agg #[.int .i64 k, .int .i64 r1, .int .i64 r2, .int .i64 r3, .int .i64 m, .int .u64 n, .bool o]] w _
  have K := Lib.hid (H.alloc (.cells #[.int .i64 k, .int .i64 r1, .int .i64 r2, .int .i64 r3, .int .i64 m, .int .u64 n, .bool o] 37)).at1
  replace hN := Lib.hid hN
  clear H
  go_enter Try.func45, Try.ntmps45
  go_upto_region 1 with (fail)
  generalize World.alloc w _ = w1 at K ⊢
  generalize w.heap.size = p at K ⊢
  have p0 : w1.cell? ⟨p, 0, none⟩ = some (.int .i64 k) := K.out.at1.cellOf 0 rfl
  go_wp2_with (at_builtin; refine wpList_append1N (E := U8) N hN.out rfl (.tmp 6) (.tmp 10) 22 rfl 5 _ 1 1 Try.underlying22 infoB8 rfl (by decide) (by decide) rfl rfl rfl (by simp) K.out (k % 256) (by omega) ?_)
  intro A5 c5 w5 K5
  replace K5 := Lib.hid K5
  clear K p0
  have hN2 : Hid ((bs ++ [k % 256]).length = N + 1) := by show _ = _; rw [List.length_append, hN.out]; rfl
  have p0 : w5.cell? ⟨p, 0, none⟩ = some (.int .i64 k) := K5.out.at1.cellOf 0 rfl
  obtain ⟨L, hL⟩ : ∃ L, bs ++ [k % 256] = L := ⟨_, rfl⟩
  rw [hL] at hN2 K5
  have hb0 : Hid (N + 1 ≤ 1000000000) := by show _ ≤ _; omega
  have hb1 : Hid (N + 1 + 8 ≤ 1000000000) := by show _ ≤ _; omega
  have hb2 : Hid (N + 1 + 8 + 8 ≤ 1000000000) := by show _ ≤ _; omega
  have c8_ : Hid (((8 : Nat) : Int) = 8) := rfl
  have c1_ : Hid (((1 : Nat) : Int) = 1) := rfl
  have h8 : Hid (8 ≤ 8) := Nat.le_refl 8
  have h1 : Hid (1 ≤ 8) := by show _ ≤ _; omega
  by_cases k1 : k = 1
  · subst k1
    have hfr : Hid (((L ++ put 8 (u64 r1)) ++ put 8 (u64 r2)) ++ put 8 (u64 r3) = bs ++ frb (1, (r1, r2, r3), m, n, o)) := by show _ = _; rw [frb_1 rfl, put1, ← hL]; simp only [List.append_assoc]
    have hx1 : IntKind.u64.wrap r1 = u64 r1 := by unfold u64; rw [IntKind.wrap_u64]
    have hx2 : IntKind.u64.wrap r2 = u64 r2 := by unfold u64; rw [IntKind.wrap_u64]
    have hx3 : IntKind.u64.wrap r3 = u64 r3 := by unfold u64; rw [IntKind.wrap_u64]
    have SS : Hid (∀ X w', Hs w0 w' (X :: Blk p (.cells #[.int .i64 1, .int .i64 r1, .int .i64 r2, .int .i64 r3, .int .i64 m, .int .u64 n, .bool o] 37) :: R) → w'.cell? ⟨p, 1, none⟩ = some (.int .i64 r1) ∧ w'.cell? ⟨p, 2, none⟩ = some (.int .i64 r2) ∧ w'.cell? ⟨p, 3, none⟩ = some (.int .i64 r3)) := fun X w' h => ⟨h.at1.cellOf 1 rfl, h.at1.cellOf 2 rfl, h.at1.cellOf 3 rfl⟩
    clear hL
    go_upto_region 8 with (fail)
    go_region_held3 (fun w' => w'.cell? ⟨p, 1, none⟩ = some (.int .i64 r1) ∧ w'.cell? ⟨p, 2, none⟩ = some (.int .i64 r2) ∧ w'.cell? ⟨p, 3, none⟩ = some (.int .i64 r3))
      (first | with_reducible exact SS.out _ _ K5.out.drew | with_reducible exact SS.out _ _ K_a | with_reducible exact SS.out _ _ K_b | with_reducible exact SS.out _ _ K_c)
      (first
        | (go_at_call 40; (with_reducible refine (number40N (N + 1) (.slice A5 (N + 1) c5) (L) hN2.out (u64 r1) (u64_lt r1) 8 h8.out 8 c8_ _ w0 _ K5.out.drew hb0.out).mono ?_); rintro e w_a ⟨A_a, c_a, rfl, h_a, K_a⟩)
        | (go_at_call 40; (with_reducible refine (number40N (N + 1 + 8) (.slice A_a (N + 1 + 8) c_a) (L ++ put 8 (u64 r1)) h_a (u64 r2) (u64_lt r2) 8 h8.out 8 c8_ _ w0 _ K_a hb1.out).mono ?_); rintro e w_b ⟨A_b, c_b, rfl, h_b, K_b⟩)
        | (go_at_call 40; (with_reducible refine (number40N (N + 1 + 8 + 8) (.slice A_b (N + 1 + 8 + 8) c_b) ((L ++ put 8 (u64 r1)) ++ put 8 (u64 r2)) h_b (u64 r3) (u64_lt r3) 8 h8.out 8 c8_ _ w0 _ K_b hb2.out).mono ?_); rintro e w_c ⟨A_c, c_c, rfl, h_c, K_c⟩))
    replace h_c := Lib.hid h_c
    have KF := Lib.hid K_c
    clear K_a K_b K_c h_a h_b hx1 hx2 hx3
    go_wp2_with fail
    go_ret
    rw [← hfr.out, h_c.out]
    exact ⟨A_c, c_c, rfl, KF.out.at1.tail⟩
  by_cases k2 : k = 2
  · subst k2
    have hfr : Hid (L ++ put 8 (u64 m) = bs ++ frb (2, (r1, r2, r3), m, n, o)) := by show _ = _; rw [frb_2 rfl, put1, ← hL]; simp only [List.append_assoc]
    have hx1 : IntKind.u64.wrap m = u64 m := by unfold u64; rw [IntKind.wrap_u64]
    have p4 : w5.cell? ⟨p, 4, none⟩ = some (.int .i64 m) := K5.out.at1.cellOf 4 rfl
    clear hL
    go_wp2_with fail
    refine (number40N (N + 1) (.slice A5 (N + 1) c5) (L) hN2.out (u64 m) (u64_lt m) 8 h8.out 8 c8_ _ w0 _ K5.out hb0.out).mono ?_
    rintro e w_a ⟨A_a, c_a, rfl, h_a, K_a⟩
    replace h_a := Lib.hid h_a
    have KF := Lib.hid K_a
    clear K_a hx1 p0 p4 K5
    go_wp2_with fail
    go_ret
    rw [← hfr.out, h_a.out]
    exact ⟨A_a, c_a, rfl, KF.out.at1.tail⟩
  · have a1 : (k == 1) = false := by rw [beq_eq_false_iff_ne]; exact k1
    have a2 : (k == 2) = false := by rw [beq_eq_false_iff_ne]; exact k2
    have hfr : Hid ((L ++ put 8 n) ++ put 1 (if o = true then 1 else 0) = bs ++ frb (k, (r1, r2, r3), m, n, o)) := by
      show _ = _
      unfold frb
      rw [if_neg k1, if_neg k2, put1 k, ← hL]
      simp only [List.append_assoc]
    have p5 : w5.cell? ⟨p, 5, none⟩ = some (.int .u64 n) := K5.out.at1.cellOf 5 rfl
    have p6 : w5.cell? ⟨p, 6, none⟩ = some (.bool o) := K5.out.at1.cellOf 6 rfl
    clear hL k1 k2
    cases o with
    | true =>
      replace hfr : Hid ((L ++ put 8 n) ++ put 1 1 = bs ++ frb (k, (r1, r2, r3), m, n, true)) := hfr
      go_wp2_with fail
      refine (number40N (N + 1) (.slice A5 (N + 1) c5) (L) hN2.out (n) ⟨hn0, hn1⟩ 8 h8.out 8 c8_ _ w0 _ K5.out hb0.out).mono ?_
      rintro e w_a ⟨A_a, c_a, rfl, h_a, K_a⟩
      clear K5 p0 p5 p6
      replace K_a := Lib.hid K_a
      go_wp2_with fail
      refine (number40N (N + 1 + 8) (.slice A_a (N + 1 + 8) c_a) (L ++ put 8 n) h_a (1) ⟨by omega, by omega⟩ 1 h1.out 1 c1_ _ w0 _ K_a.out hb1.out).mono ?_
      rintro e w_b ⟨A_b, c_b, rfl, h_b, K_b⟩
      replace h_b := Lib.hid h_b
      have KF := Lib.hid K_b
      clear K_a K_b h_a
      go_wp2_with fail
      go_ret
      rw [← hfr.out, h_b.out]
      exact ⟨A_b, c_b, rfl, KF.out.at1.tail⟩
    | false =>
      replace hfr : Hid ((L ++ put 8 n) ++ put 1 0 = bs ++ frb (k, (r1, r2, r3), m, n, false)) := hfr
      go_wp2_with fail
      refine (number40N (N + 1) (.slice A5 (N + 1) c5) (L) hN2.out (n) ⟨hn0, hn1⟩ 8 h8.out 8 c8_ _ w0 _ K5.out hb0.out).mono ?_
      rintro e w_a ⟨A_a, c_a, rfl, h_a, K_a⟩
      clear K5 p0 p5 p6
      replace K_a := Lib.hid K_a
      go_wp2_with fail
      refine (number40N (N + 1 + 8) (.slice A_a (N + 1 + 8) c_a) (L ++ put 8 n) h_a (0) ⟨by omega, by omega⟩ 1 h1.out 1 c1_ _ w0 _ K_a.out hb1.out).mono ?_
      rintro e w_b ⟨A_b, c_b, rfl, h_b, K_b⟩
      replace h_b := Lib.hid h_b
      have KF := Lib.hid K_b
      clear K_a K_b h_a
      go_wp2_with fail
      go_ret
      rw [← hfr.out, h_b.out]
      exact ⟨A_b, c_b, rfl, KF.out.at1.tail⟩
end Go.Proofs.Ytjdkpogkhecijaa

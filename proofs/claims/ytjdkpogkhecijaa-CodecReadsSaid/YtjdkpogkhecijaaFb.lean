import Derived.Test.YtjdkpogkhecijaaFa
import Derived.IntWalk
import Derived.Test.YtjdkpogkhecijaaProg
import Derived.Test.YtjdkpogkhecijaaLs
import Derived.Outline
import Derived.StillTailTactics
import Derived.Deep.DeepCutAuto
import Derived.Deep.CutBlock
import Derived.Deep.LoopGhost
import Derived.Deep.QuietTactic
import Derived.BigQuiet
import Derived.Deep.RegionHeld3
import Derived.Deep.RegionLaw
set_option linter.unusedVariables false
set_option linter.unusedSimpArgs false
namespace Go.Proofs.Ytjdkpogkhecijaa
open Go.RowKit
theorem be_wrong {f : Fr} {w' w0 : World} {R : List HP} (h : ¬ Right f) (K : Hs w0 w' R) : BE w0 R (fout f) (ferr f) (.returned (.tuple #[.slice none 0 0, .int .i64 10])) w' := by
  unfold fout ferr
  rw [if_neg h, if_neg h]
  exact ⟨none, 0, rfl, K.ls_nil _ _⟩
theorem be_right {f : Fr} {w' w0 : World} {R : List HP} {A : Option Addr} {n c : Nat} {L : List Int} (h : Right f) (hL : L = frb f) (hn : L.length = n) (K : Hs w0 w' (Ls U8 5 (.slice A n c) L :: R)) : BE w0 R (fout f) (ferr f) (.returned (.tuple #[.slice A n c, .int .i64 0])) w' := by
  subst hn
  subst hL
  unfold fout ferr
  rw [if_pos h, if_pos h]
  exact ⟨A, c, rfl, K⟩
set_option maxRecDepth 100000 in
set_option maxHeartbeats 1600000 in
theorem frame19 (f : Fr) (hf : U64 f.2.2.2.1) (w w0 : World) (R : List HP) (H : Hs w0 w R) : Calls Try.prog 19 #[frv f] w (BE w0 R (fout f) (ferr f)) := by
  have K := H.alloc (.cells (frc f) 37)
  have T1 := right44 f (w.alloc (.cells (frc f) 37)) w0 _ K
  obtain ⟨k, ⟨r1, r2, r3⟩, m, n, o⟩ := f
  have T2 : Hid (∀ w w0 R, Hs w0 w R → Calls Try.prog 45 #[.slice none 0 0, frv (k, (r1, r2, r3), m, n, o)] w fun e w' => ∃ A c, e = .returned (.slice A ([] ++ frb (k, (r1, r2, r3), m, n, o)).length c) ∧ Hs w0 w' (Ls U8 5 (.slice A ([] ++ frb (k, (r1, r2, r3), m, n, o)).length c) ([] ++ frb (k, (r1, r2, r3), m, n, o)) :: R)) :=
    fun w w0 R h => frame45 (.slice none 0 0) [] _ hf w w0 R (h.ls_nil _ _) (by simp)
  rw [List.nil_append] at T2
  clear H hf
  by_cases hR : Right (k, (r1, r2, r3), m, n, o)
  · have hfo : fout (k, (r1, r2, r3), m, n, o) = frb (k, (r1, r2, r3), m, n, o) := if_pos hR
    have hfe : ferr (k, (r1, r2, r3), m, n, o) = 0 := if_pos hR
    rw [decide_eq_true hR] at T1
    rw [hfo, hfe]
    clear hfo hfe hR
    generalize frb (k, (r1, r2, r3), m, n, o) = L at *
    dsimp only [frv, frc] at T1 T2 K ⊢
    replace T1 := Lib.hid T1
    replace K := Lib.hid K
    go_enter Try.func19, Try.ntmps19
    go_upto_region 1 with (fail)
    generalize World.alloc w _ = w1 at K T1 ⊢
    generalize w.heap.size = p at K T1 ⊢
    have q0 : w1.cell? ⟨p, 0, none⟩ = some (.int .i64 k) := K.out.cellOf 0 rfl
    have q1 : w1.cell? ⟨p, 1, none⟩ = some (.int .i64 r1) := K.out.cellOf 1 rfl
    have q2 : w1.cell? ⟨p, 2, none⟩ = some (.int .i64 r2) := K.out.cellOf 2 rfl
    have q3 : w1.cell? ⟨p, 3, none⟩ = some (.int .i64 r3) := K.out.cellOf 3 rfl
    have q4 : w1.cell? ⟨p, 4, none⟩ = some (.int .i64 m) := K.out.cellOf 4 rfl
    have q5 : w1.cell? ⟨p, 5, none⟩ = some (.int .u64 n) := K.out.cellOf 5 rfl
    have q6 : w1.cell? ⟨p, 6, none⟩ = some (.bool o) := K.out.cellOf 6 rfl
    go_wp2_with fail
    refine T1.out.mono ?_
    rintro e w2 ⟨rfl, K2⟩
    replace K2 := Lib.hid K2
    clear K T1 q0 q1 q2 q3 q4 q5 q6
    have q0 : w2.cell? ⟨p, 0, none⟩ = some (.int .i64 k) := K2.out.cellOf 0 rfl
    have q1 : w2.cell? ⟨p, 1, none⟩ = some (.int .i64 r1) := K2.out.cellOf 1 rfl
    have q2 : w2.cell? ⟨p, 2, none⟩ = some (.int .i64 r2) := K2.out.cellOf 2 rfl
    have q3 : w2.cell? ⟨p, 3, none⟩ = some (.int .i64 r3) := K2.out.cellOf 3 rfl
    have q4 : w2.cell? ⟨p, 4, none⟩ = some (.int .i64 m) := K2.out.cellOf 4 rfl
    have q5 : w2.cell? ⟨p, 5, none⟩ = some (.int .u64 n) := K2.out.cellOf 5 rfl
    have q6 : w2.cell? ⟨p, 6, none⟩ = some (.bool o) := K2.out.cellOf 6 rfl
    go_wp2_with fail
    refine (T2.out _ _ _ K2.out).mono ?_
    rintro e w3 ⟨A, c, rfl, K3⟩
    replace K3 := Lib.hid K3
    clear K2 T2 q0 q1 q2 q3 q4 q5 q6
    go_wp2_with fail
    go_ret2
    exact ⟨A, c, rfl, K3.out.at1.tail⟩
  · have hfo : fout (k, (r1, r2, r3), m, n, o) = [] := if_neg hR
    have hfe : ferr (k, (r1, r2, r3), m, n, o) = 10 := if_neg hR
    rw [decide_eq_false hR] at T1
    rw [hfo, hfe]
    clear hfo hfe hR T2
    dsimp only [frv, frc] at T1 K ⊢
    replace T1 := Lib.hid T1
    replace K := Lib.hid K
    go_enter Try.func19, Try.ntmps19
    go_upto_region 1 with (fail)
    generalize World.alloc w _ = w1 at K T1 ⊢
    generalize w.heap.size = p at K T1 ⊢
    have q0 : w1.cell? ⟨p, 0, none⟩ = some (.int .i64 k) := K.out.cellOf 0 rfl
    have q1 : w1.cell? ⟨p, 1, none⟩ = some (.int .i64 r1) := K.out.cellOf 1 rfl
    have q2 : w1.cell? ⟨p, 2, none⟩ = some (.int .i64 r2) := K.out.cellOf 2 rfl
    have q3 : w1.cell? ⟨p, 3, none⟩ = some (.int .i64 r3) := K.out.cellOf 3 rfl
    have q4 : w1.cell? ⟨p, 4, none⟩ = some (.int .i64 m) := K.out.cellOf 4 rfl
    have q5 : w1.cell? ⟨p, 5, none⟩ = some (.int .u64 n) := K.out.cellOf 5 rfl
    have q6 : w1.cell? ⟨p, 6, none⟩ = some (.bool o) := K.out.cellOf 6 rfl
    go_wp2_with fail
    refine T1.out.mono ?_
    rintro e w2 ⟨rfl, K2⟩
    replace K2 := Lib.hid K2
    clear K T1 q0 q1 q2 q3 q4 q5 q6
    go_wp2_with fail
    go_ret2
    exact ⟨none, 0, rfl, K2.out.tail.ls_nil _ _⟩
set_option maxRecDepth 100000 in
set_option maxHeartbeats 8000000 in
theorem rframe20 (f : Fr) (hf : U64 f.2.2.2.1) (w w0 : World) (R : List HP) (H : Hs w0 w R) : Calls Try.prog 20 #[frv f] w (BE w0 R (fout f) (ferr f)) := by
  obtain ⟨k, ⟨r1, r2, r3⟩, m, n, o⟩ := f
  obtain ⟨hn0, hn1⟩ := hf
  dsimp only at hn0 hn1
  have c8_ : Hid (((8 : Nat) : Int) = 8) := rfl
  have h8 : Hid (8 ≤ 8) := Nat.le_refl 8
  have hb0 : Hid (1 ≤ 1000000000) := by show _ ≤ _; omega
  have hb1 : Hid (1 + 8 ≤ 1000000000) := by show _ ≤ _; omega
  have hb2 : Hid (1 + 8 + 8 ≤ 1000000000) := by show _ ≤ _; omega
  have hL0 : ∀ x : Int, Hid ([x].length = 1) := fun _ => rfl
  show Calls Try.prog 20 #[.agg #[.int .i64 k, .int .i64 r1, .int .i64 r2, .int .i64 r3, .int .i64 m, .int .u64 n, .bool o]] w _
  have K := Lib.hid H
  clear H
  by_cases k1 : k = 1
  · subst k1
    have KQ := ((K.out.alloc (.cells #[.int .i64 1, .int .i64 r1, .int .i64 r2, .int .i64 r3, .int .i64 m, .int .u64 n, .bool o] 37)).alloc (.cells #[.int .i64 1, .int .i64 r1, .int .i64 r2, .int .i64 r3, .int .i64 0, .int .u64 0, .bool false] 37)).ls_lit U8 5 [1] #[.int .u8 1] rfl 1 rfl (by omega)
    have s1 : (w.alloc (.cells #[.int .i64 1, .int .i64 r1, .int .i64 r2, .int .i64 r3, .int .i64 m, .int .u64 n, .bool o] 37)).heap.size = w.heap.size + 1 := Array.size_push ..
    have s2 : ((w.alloc (.cells #[.int .i64 1, .int .i64 r1, .int .i64 r2, .int .i64 r3, .int .i64 m, .int .u64 n, .bool o] 37)).alloc (.cells #[.int .i64 1, .int .i64 r1, .int .i64 r2, .int .i64 r3, .int .i64 0, .int .u64 0, .bool false] 37)).heap.size = w.heap.size + 1 + 1 := (Array.size_push ..).trans (by rw [s1])
    rw [s2, s1] at KQ
    replace KQ := Lib.hid KQ
    clear s1 s2 K
    go_enter Try.func20, Try.ntmps20
    go_upto_region 7 with (fail)
    generalize World.alloc _ _ = w1 at KQ ⊢
    generalize w.heap.size + 1 + 1 = gl at KQ ⊢
    generalize w.heap.size + 1 = q at KQ ⊢
    generalize w.heap.size = p at KQ ⊢
    have hfr : Hid ((([1] ++ put 8 (u64 r1)) ++ put 8 (u64 r2)) ++ put 8 (u64 r3) = frb (1, (r1, r2, r3), m, n, o)) := by show _ = _; rw [frb_1 rfl, put1]; simp only [List.append_assoc]; rfl
    have hx1 : IntKind.u64.wrap r1 = u64 r1 := by unfold u64; rw [IntKind.wrap_u64]
    have hx2 : IntKind.u64.wrap r2 = u64 r2 := by unfold u64; rw [IntKind.wrap_u64]
    have hx3 : IntKind.u64.wrap r3 = u64 r3 := by unfold u64; rw [IntKind.wrap_u64]
    have SS : Hid (∀ X w', Hs w0 w' (X :: Blk q (.cells #[.int .i64 1, .int .i64 r1, .int .i64 r2, .int .i64 r3, .int .i64 0, .int .u64 0, .bool false] 37) :: Blk p (.cells #[.int .i64 1, .int .i64 r1, .int .i64 r2, .int .i64 r3, .int .i64 m, .int .u64 n, .bool o] 37) :: R) → w'.cell? ⟨p, 1, none⟩ = some (.int .i64 r1) ∧ w'.cell? ⟨p, 2, none⟩ = some (.int .i64 r2) ∧ w'.cell? ⟨p, 3, none⟩ = some (.int .i64 r3)) := fun X w' h => ⟨h.at2.cellOf 1 rfl, h.at2.cellOf 2 rfl, h.at2.cellOf 3 rfl⟩
    go_region_held3 (fun w' => w'.cell? ⟨p, 1, none⟩ = some (.int .i64 r1) ∧ w'.cell? ⟨p, 2, none⟩ = some (.int .i64 r2) ∧ w'.cell? ⟨p, 3, none⟩ = some (.int .i64 r3))
      (first | with_reducible exact SS.out _ _ KQ.out.drew | with_reducible exact SS.out _ _ K_a | with_reducible exact SS.out _ _ K_b | with_reducible exact SS.out _ _ K_c)
      (first
        | (go_at_call 41; (with_reducible refine (put41N (1) (.slice (some ⟨gl, 0, none⟩) 1 1) ([1]) (hL0 1).out (u64 r1) (u64_lt r1) 8 h8.out 8 c8_ _ w0 _ KQ.out.drew hb0.out).mono ?_); rintro e w_a ⟨A_a, c_a, rfl, h_a, K_a⟩)
        | (go_at_call 41; (with_reducible refine (put41N (1 + 8) (.slice A_a (1 + 8) c_a) ([1] ++ put 8 (u64 r1)) h_a (u64 r2) (u64_lt r2) 8 h8.out 8 c8_ _ w0 _ K_a hb1.out).mono ?_); rintro e w_b ⟨A_b, c_b, rfl, h_b, K_b⟩)
        | (go_at_call 41; (with_reducible refine (put41N (1 + 8 + 8) (.slice A_b (1 + 8 + 8) c_b) (([1] ++ put 8 (u64 r1)) ++ put 8 (u64 r2)) h_b (u64 r3) (u64_lt r3) 8 h8.out 8 c8_ _ w0 _ K_b hb2.out).mono ?_); rintro e w_c ⟨A_c, c_c, rfl, h_c, K_c⟩))
    have h_z := Lib.hid h_c
    have KF := Lib.hid K_c
    clear K_a K_b K_c h_a h_b h_c hx1 hx2 hx3 SS KQ
    have q0 : w_c.cell? ⟨p, 0, none⟩ = some (.int .i64 1) := KF.out.at2.cellOf 0 rfl
    have q1 : w_c.cell? ⟨p, 1, none⟩ = some (.int .i64 r1) := KF.out.at2.cellOf 1 rfl
    have q2 : w_c.cell? ⟨p, 2, none⟩ = some (.int .i64 r2) := KF.out.at2.cellOf 2 rfl
    have q3 : w_c.cell? ⟨p, 3, none⟩ = some (.int .i64 r3) := KF.out.at2.cellOf 3 rfl
    have q4 : w_c.cell? ⟨p, 4, none⟩ = some (.int .i64 m) := KF.out.at2.cellOf 4 rfl
    have q5 : w_c.cell? ⟨p, 5, none⟩ = some (.int .u64 n) := KF.out.at2.cellOf 5 rfl
    have q6 : w_c.cell? ⟨p, 6, none⟩ = some (.bool o) := KF.out.at2.cellOf 6 rfl
    have g0 : w_c.cell? ⟨q, 0, none⟩ = some (.int .i64 1) := KF.out.at1.cellOf 0 rfl
    have g1 : w_c.cell? ⟨q, 1, none⟩ = some (.int .i64 r1) := KF.out.at1.cellOf 1 rfl
    have g2 : w_c.cell? ⟨q, 2, none⟩ = some (.int .i64 r2) := KF.out.at1.cellOf 2 rfl
    have g3 : w_c.cell? ⟨q, 3, none⟩ = some (.int .i64 r3) := KF.out.at1.cellOf 3 rfl
    have g4 : w_c.cell? ⟨q, 4, none⟩ = some (.int .i64 0) := KF.out.at1.cellOf 4 rfl
    have g5 : w_c.cell? ⟨q, 5, none⟩ = some (.int .u64 0) := KF.out.at1.cellOf 5 rfl
    have g6 : w_c.cell? ⟨q, 6, none⟩ = some (.bool false) := KF.out.at1.cellOf 6 rfl
    go_wp2_with fail
    all_goals (go_ret2; first | exact be_wrong (by unfold Right; first | (simp_all; done) | (simp_all; intros; omega)) KF.out.tail.tail.tail | exact be_right (by unfold Right; first | (simp_all; done) | (simp_all; intros; omega)) hfr.out h_z.out KF.out.at1.tail.at1.tail)
  by_cases k2 : k = 2
  · subst k2
    have KQ := ((K.out.alloc (.cells #[.int .i64 2, .int .i64 r1, .int .i64 r2, .int .i64 r3, .int .i64 m, .int .u64 n, .bool o] 37)).alloc (.cells #[.int .i64 2, .int .i64 0, .int .i64 0, .int .i64 0, .int .i64 m, .int .u64 0, .bool false] 37)).ls_lit U8 5 [2] #[.int .u8 2] rfl 1 rfl (by omega)
    have s1 : (w.alloc (.cells #[.int .i64 2, .int .i64 r1, .int .i64 r2, .int .i64 r3, .int .i64 m, .int .u64 n, .bool o] 37)).heap.size = w.heap.size + 1 := Array.size_push ..
    have s2 : ((w.alloc (.cells #[.int .i64 2, .int .i64 r1, .int .i64 r2, .int .i64 r3, .int .i64 m, .int .u64 n, .bool o] 37)).alloc (.cells #[.int .i64 2, .int .i64 0, .int .i64 0, .int .i64 0, .int .i64 m, .int .u64 0, .bool false] 37)).heap.size = w.heap.size + 1 + 1 := (Array.size_push ..).trans (by rw [s1])
    rw [s2, s1] at KQ
    replace KQ := Lib.hid KQ
    clear s1 s2 K
    go_enter Try.func20, Try.ntmps20
    go_upto_region 10 with (fail)
    generalize World.alloc _ _ = w1 at KQ ⊢
    generalize w.heap.size + 1 + 1 = gl at KQ ⊢
    generalize w.heap.size + 1 = q at KQ ⊢
    generalize w.heap.size = p at KQ ⊢
    have hfr : Hid ([2] ++ put 8 (u64 m) = frb (2, (r1, r2, r3), m, n, o)) := by show _ = _; rw [frb_2 rfl, put1]; rfl
    have hx1 : IntKind.u64.wrap m = u64 m := by unfold u64; rw [IntKind.wrap_u64]
    have q4 : w1.cell? ⟨p, 4, none⟩ = some (.int .i64 m) := KQ.out.at2.cellOf 4 rfl
    go_wp2_with fail
    refine (put41N (1) (.slice (some ⟨gl, 0, none⟩) 1 1) ([2]) (hL0 2).out (u64 m) (u64_lt m) 8 h8.out 8 c8_ _ w0 _ KQ.out hb0.out).mono ?_
    rintro e w_a ⟨A_a, c_a, rfl, h_a, K_a⟩
    have h_z := Lib.hid h_a
    have KF := Lib.hid K_a
    clear K_a h_a hx1 q4 KQ
    have q0 : w_a.cell? ⟨p, 0, none⟩ = some (.int .i64 2) := KF.out.at2.cellOf 0 rfl
    have q1 : w_a.cell? ⟨p, 1, none⟩ = some (.int .i64 r1) := KF.out.at2.cellOf 1 rfl
    have q2 : w_a.cell? ⟨p, 2, none⟩ = some (.int .i64 r2) := KF.out.at2.cellOf 2 rfl
    have q3 : w_a.cell? ⟨p, 3, none⟩ = some (.int .i64 r3) := KF.out.at2.cellOf 3 rfl
    have q4 : w_a.cell? ⟨p, 4, none⟩ = some (.int .i64 m) := KF.out.at2.cellOf 4 rfl
    have q5 : w_a.cell? ⟨p, 5, none⟩ = some (.int .u64 n) := KF.out.at2.cellOf 5 rfl
    have q6 : w_a.cell? ⟨p, 6, none⟩ = some (.bool o) := KF.out.at2.cellOf 6 rfl
    have g0 : w_a.cell? ⟨q, 0, none⟩ = some (.int .i64 2) := KF.out.at1.cellOf 0 rfl
    have g1 : w_a.cell? ⟨q, 1, none⟩ = some (.int .i64 0) := KF.out.at1.cellOf 1 rfl
    have g2 : w_a.cell? ⟨q, 2, none⟩ = some (.int .i64 0) := KF.out.at1.cellOf 2 rfl
    have g3 : w_a.cell? ⟨q, 3, none⟩ = some (.int .i64 0) := KF.out.at1.cellOf 3 rfl
    have g4 : w_a.cell? ⟨q, 4, none⟩ = some (.int .i64 m) := KF.out.at1.cellOf 4 rfl
    have g5 : w_a.cell? ⟨q, 5, none⟩ = some (.int .u64 0) := KF.out.at1.cellOf 5 rfl
    have g6 : w_a.cell? ⟨q, 6, none⟩ = some (.bool false) := KF.out.at1.cellOf 6 rfl
    go_wp2_with fail
    all_goals (go_ret2; first | exact be_wrong (by unfold Right; first | (simp_all; done) | (simp_all; intros; omega)) KF.out.tail.tail.tail | exact be_right (by unfold Right; first | (simp_all; done) | (simp_all; intros; omega)) hfr.out h_z.out KF.out.at1.tail.at1.tail)
  by_cases k3 : k = 3
  · subst k3
    have KQ := ((K.out.alloc (.cells #[.int .i64 3, .int .i64 r1, .int .i64 r2, .int .i64 r3, .int .i64 m, .int .u64 n, .bool o] 37)).alloc (.cells #[.int .i64 3, .int .i64 0, .int .i64 0, .int .i64 0, .int .i64 0, .int .u64 0, .bool false] 37)).ls_lit U8 5 [3] #[.int .u8 3] rfl 1 rfl (by omega)
    have s1 : (w.alloc (.cells #[.int .i64 3, .int .i64 r1, .int .i64 r2, .int .i64 r3, .int .i64 m, .int .u64 n, .bool o] 37)).heap.size = w.heap.size + 1 := Array.size_push ..
    have s2 : ((w.alloc (.cells #[.int .i64 3, .int .i64 r1, .int .i64 r2, .int .i64 r3, .int .i64 m, .int .u64 n, .bool o] 37)).alloc (.cells #[.int .i64 3, .int .i64 0, .int .i64 0, .int .i64 0, .int .i64 0, .int .u64 0, .bool false] 37)).heap.size = w.heap.size + 1 + 1 := (Array.size_push ..).trans (by rw [s1])
    rw [s2, s1] at KQ
    replace KQ := Lib.hid KQ
    clear s1 s2 K
    go_enter Try.func20, Try.ntmps20
    go_upto_region 12 with (fail)
    generalize World.alloc _ _ = w1 at KQ ⊢
    generalize w.heap.size + 1 + 1 = gl at KQ ⊢
    generalize w.heap.size + 1 = q at KQ ⊢
    generalize w.heap.size = p at KQ ⊢
    have hfr : Hid (([3] ++ put 8 n) ++ [if o = true then 1 else 0] = frb (3, (r1, r2, r3), m, n, o)) := by show _ = _; rw [frb_3 rfl, put1, put1]; cases o <;> rfl
    have q5 : w1.cell? ⟨p, 5, none⟩ = some (.int .u64 n) := KQ.out.at2.cellOf 5 rfl
    have q6 : w1.cell? ⟨p, 6, none⟩ = some (.bool o) := KQ.out.at2.cellOf 6 rfl
    have g5 : w1.cell? ⟨q, 5, none⟩ = some (.int .u64 0) := KQ.out.at1.cellOf 5 rfl
    have g6 : w1.cell? ⟨q, 6, none⟩ = some (.bool false) := KQ.out.at1.cellOf 6 rfl
    have f5 := KQ.out.at1.frozenOf 5
    have f6 := KQ.out.at1.frozenOf 6
    have npq : (q == p) = false := by rw [beq_eq_false_iff_ne]; exact KQ.out.tail.ne
    go_cut [] (fun wc => Hid (Hs w0 wc (Ls U8 5 (.slice (some ⟨gl, 0, none⟩) 1 1) [3] :: Blk q (.cells #[.int .i64 3, .int .i64 0, .int .i64 0, .int .i64 0, .int .i64 0, .int .u64 n, .bool o] 37) :: Blk p (.cells #[.int .i64 3, .int .i64 r1, .int .i64 r2, .int .i64 r3, .int .i64 m, .int .u64 n, .bool o] 37) :: R)))
    case first =>
      go_region
      all_goals (go_wp2_with fail; go_meet; case rel => exact Lib.hid ((KQ.out.at1.setCell (i := 5) (.int .u64 n)).setCell (i := 6) (.bool o)).drew.at1)
    case rest =>
      clear q5 q6 g5 g6 f5 f6 npq KQ
      have KR := hcut
      have q5 : wc.cell? ⟨p, 5, none⟩ = some (.int .u64 n) := KR.out.at2.cellOf 5 rfl
      go_wp2_with fail
      refine (put41N (1) (.slice (some ⟨gl, 0, none⟩) 1 1) ([3]) (hL0 3).out (n) ⟨hn0, hn1⟩ 8 h8.out 8 c8_ _ w0 _ KR.out hb0.out).mono ?_
      rintro e w_a ⟨A_a, c_a, rfl, h_a, K_a⟩
      have K4 := Lib.hid K_a
      clear q5 KR hcut K_a
      replace h_a := Lib.hid h_a
      go_wp2_with (at_builtin; refine wpList_append1N (E := U8) (1 + 8) h_a.out rfl (.tmp 57) (.tmp 58) 22 rfl 5 _ 1 1 Try.underlying22 infoB8 rfl (by decide) (by decide) rfl rfl rfl (by simp) K4.out 0 (by omega) ?_)
      intro A5 c5 w5 K5
      rw [show (3 :: (put 8 n ++ [0]) : List Int) = ([3] ++ put 8 n) ++ [0] from rfl] at K5
      replace K5 := Lib.hid K5
      clear K4
      have h_b : Hid ((([3] ++ put 8 n) ++ [0]).length = 10) := by show _ = _; rw [List.length_append, h_a.out]; rfl
      obtain ⟨gb, ob, rfl⟩ := K5.out.ls_rd.some_ (by rw [h_b.out]; omega)
      have q6 : w5.cell? ⟨p, 6, none⟩ = some (.bool o) := K5.out.at2.cellOf 6 rfl
      have d9 : w5.cell? ⟨gb, ob + 9, none⟩ = some (.int .u8 0) := by
        have := K5.out.ls_rd.cell (i := 9) (x := 0) (by rw [List.getElem?_append_right (by rw [h_a.out]; decide)]; rw [h_a.out]; rfl) 0 rfl
        simpa [Enc.num] using this
      have f9 := K5.out.ls_frozen (ob + 9)
      cases o with
      | true =>
        have K6 := Lib.hid (K5.out.ls_set rfl 9 (by omega) 1 (.int .u8 1) rfl)
        have hst : (([3] ++ put 8 n) ++ [0]).set 9 1 = ([3] ++ put 8 n) ++ [1] := by
          rw [List.set_append_right _ _ (by rw [h_a.out]; decide)]
          rw [h_a.out]
          rfl
        rw [hst] at K6
        have h_z : Hid ((([3] ++ put 8 n) ++ [1]).length = 10) := by show _ = _; rw [List.length_append, h_a.out]; rfl
        replace hfr : Hid (([3] ++ put 8 n) ++ [1] = frb (3, (r1, r2, r3), m, n, true)) := hfr
        clear hst
        go_upto_region 16 with (fail)
        clear q6 d9 f9 K5
        generalize World.setCell _ _ _ = w6 at K6 ⊢
        have q0 : w6.cell? ⟨p, 0, none⟩ = some (.int .i64 3) := K6.out.at2.cellOf 0 rfl
        have q1 : w6.cell? ⟨p, 1, none⟩ = some (.int .i64 r1) := K6.out.at2.cellOf 1 rfl
        have q2 : w6.cell? ⟨p, 2, none⟩ = some (.int .i64 r2) := K6.out.at2.cellOf 2 rfl
        have q3 : w6.cell? ⟨p, 3, none⟩ = some (.int .i64 r3) := K6.out.at2.cellOf 3 rfl
        have q4 : w6.cell? ⟨p, 4, none⟩ = some (.int .i64 m) := K6.out.at2.cellOf 4 rfl
        have q5 : w6.cell? ⟨p, 5, none⟩ = some (.int .u64 n) := K6.out.at2.cellOf 5 rfl
        have q6 : w6.cell? ⟨p, 6, none⟩ = some (.bool true) := K6.out.at2.cellOf 6 rfl
        have g0 : w6.cell? ⟨q, 0, none⟩ = some (.int .i64 3) := K6.out.at1.cellOf 0 rfl
        have g1 : w6.cell? ⟨q, 1, none⟩ = some (.int .i64 0) := K6.out.at1.cellOf 1 rfl
        have g2 : w6.cell? ⟨q, 2, none⟩ = some (.int .i64 0) := K6.out.at1.cellOf 2 rfl
        have g3 : w6.cell? ⟨q, 3, none⟩ = some (.int .i64 0) := K6.out.at1.cellOf 3 rfl
        have g4 : w6.cell? ⟨q, 4, none⟩ = some (.int .i64 0) := K6.out.at1.cellOf 4 rfl
        have g5 : w6.cell? ⟨q, 5, none⟩ = some (.int .u64 n) := K6.out.at1.cellOf 5 rfl
        have g6 : w6.cell? ⟨q, 6, none⟩ = some (.bool true) := K6.out.at1.cellOf 6 rfl
        go_wp2_with fail
        all_goals (go_ret2; first | exact be_wrong (by unfold Right; first | (simp_all; done) | (simp_all; intros; omega)) K6.out.tail.tail.tail | exact be_right (by unfold Right; first | (simp_all; done) | (simp_all; intros; omega)) hfr.out h_z.out K6.out.at1.tail.at1.tail)
      | false =>
        have h_z := h_b
        replace hfr : Hid (([3] ++ put 8 n) ++ [0] = frb (3, (r1, r2, r3), m, n, false)) := hfr
        go_upto_region 16 with (fail)
        clear d9 f9 q6
        have q0 : w5.cell? ⟨p, 0, none⟩ = some (.int .i64 3) := K5.out.at2.cellOf 0 rfl
        have q1 : w5.cell? ⟨p, 1, none⟩ = some (.int .i64 r1) := K5.out.at2.cellOf 1 rfl
        have q2 : w5.cell? ⟨p, 2, none⟩ = some (.int .i64 r2) := K5.out.at2.cellOf 2 rfl
        have q3 : w5.cell? ⟨p, 3, none⟩ = some (.int .i64 r3) := K5.out.at2.cellOf 3 rfl
        have q4 : w5.cell? ⟨p, 4, none⟩ = some (.int .i64 m) := K5.out.at2.cellOf 4 rfl
        have q5 : w5.cell? ⟨p, 5, none⟩ = some (.int .u64 n) := K5.out.at2.cellOf 5 rfl
        have q6 : w5.cell? ⟨p, 6, none⟩ = some (.bool false) := K5.out.at2.cellOf 6 rfl
        have g0 : w5.cell? ⟨q, 0, none⟩ = some (.int .i64 3) := K5.out.at1.cellOf 0 rfl
        have g1 : w5.cell? ⟨q, 1, none⟩ = some (.int .i64 0) := K5.out.at1.cellOf 1 rfl
        have g2 : w5.cell? ⟨q, 2, none⟩ = some (.int .i64 0) := K5.out.at1.cellOf 2 rfl
        have g3 : w5.cell? ⟨q, 3, none⟩ = some (.int .i64 0) := K5.out.at1.cellOf 3 rfl
        have g4 : w5.cell? ⟨q, 4, none⟩ = some (.int .i64 0) := K5.out.at1.cellOf 4 rfl
        have g5 : w5.cell? ⟨q, 5, none⟩ = some (.int .u64 n) := K5.out.at1.cellOf 5 rfl
        have g6 : w5.cell? ⟨q, 6, none⟩ = some (.bool false) := K5.out.at1.cellOf 6 rfl
        go_wp2_with fail
        all_goals (go_ret2; first | exact be_wrong (by unfold Right; first | (simp_all; done) | (simp_all; intros; omega)) K5.out.tail.tail.tail | exact be_right (by unfold Right; first | (simp_all; done) | (simp_all; intros; omega)) hfr.out h_z.out K5.out.at1.tail.at1.tail)
  · have K2 := Lib.hid K.out
    have hno : Hid (¬ Right (k, (r1, r2, r3), m, n, o)) := by show ¬ _; unfold Right; simp [k1, k2, k3]
    have a1 : (k == 1) = false := by rw [beq_eq_false_iff_ne]; exact k1
    have a2 : (k == 2) = false := by rw [beq_eq_false_iff_ne]; exact k2
    have a3 : (k == 3) = false := by rw [beq_eq_false_iff_ne]; exact k3
    clear k1 k2 k3 K
    go_enter Try.func20, Try.ntmps20
    go_wp2_with fail
    go_ret2
    exact be_wrong hno.out (((K2.out.alloc_ _).alloc_ _).alloc_ _)
end Go.Proofs.Ytjdkpogkhecijaa

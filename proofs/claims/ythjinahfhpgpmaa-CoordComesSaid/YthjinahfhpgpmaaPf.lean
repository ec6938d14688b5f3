import Derived.Test.YthjinahfhpgpmaaPd
import Derived.Test.YthjinahfhpgpmaaPn
import Derived.StillTailTactics
import Derived.IntWalk
import Derived.Test.YthjinahfhpgpmaaProg
import Derived.Test.YthjinahfhpgpmaaLs
import Derived.Outline
import Derived.StillTailTactics
import Derived.Deep.DeepCutAuto
import Derived.Deep.CutBlock
import Derived.Deep.LoopGhost
import Derived.Deep.QuietTactic
import Derived.BigQuiet
import Derived.Deep.RegionHeld3
import Derived.Deep.RegionLaw
set_option linter.unusedVariables false
set_option linter.unusedSimpArgs false
namespace Go.Proofs.Ythjinahfhpgpmaa
open Go.RowKit
theorem con23 (v : Value) (t : Int) (xs : List Int) (w : World) (h : RdL (Enc.num .i64) w v xs) : ∀ q, Calls Try.prog 23 #[v, .int .i64 t] (w.drewN q) fun e w'' => e = .returned (.bool (xs.contains t)) ∧ ∃ m, w'' = w.drewN m := by
  obtain ⟨A, c, rfl⟩ := h.form
  intro q
  refine (contains23 A _ c t xs _ (h.drewN q)).mono ?_
  rintro e w1 ⟨rfl, rfl⟩
  exact ⟨rfl, q, rfl⟩
section
variable (p : Nat) (v : Vs) (s : Co) (w w0 : World) (R : List HP) (H : Hs w0 w (CoV p v s :: R))
include H
set_option maxRecDepth 100000 in
set_option maxHeartbeats 8000000 in
theorem take14 (kd ep n tk : Int) (hlen : s.tasks.length ≤ 1000) :
    Calls Try.prog 14 #[.pointer (some ⟨p, 0, none⟩), .agg #[.int .i64 kd, .int .u64 ep, .int .u64 n, .int .i64 tk]] w fun e w' => e = .returned (.tuple #[.int .u64 (s.take (kd, ep, n, tk)).2, .slice none 0 0]) ∧ Hs w0 w' (CoV p v (s.take (kd, ep, n, tk)).1 :: R) := by
  have H1 := H.alloc (.cells #[.int .i64 kd, .int .u64 ep, .int .u64 n, .int .i64 tk] 32)
  obtain ⟨bm, hbm⟩ : ∃ bm, bm = w.heap.size := ⟨_, rfl⟩
  obtain ⟨w1, hw1⟩ : ∃ w1, w1 = w.alloc (.cells #[.int .i64 kd, .int .u64 ep, .int .u64 n, .int .i64 tk] 32) := ⟨_, rfl⟩
  rw [← hbm, ← hw1] at H1
  replace H1 := Lib.hid H1.at1
  replace hbm := Lib.hid hbm
  replace hw1 := Lib.hid hw1
  clear H
  have con1 : Hid (∀ w', Hs w0 w' (CoV p v s :: Blk bm (.cells #[.int .i64 kd, .int .u64 ep, .int .u64 n, .int .i64 tk] 32 (0, 0)) :: R) → ∀ q, Calls Try.prog 23 #[v.vt, .int .i64 tk] (w'.drewN q) fun e w'' => e = .returned (.bool (s.tasks.contains tk)) ∧ ∃ m, w'' = w'.drewN m) := fun w' h => con23 _ _ _ _ (CoV.tasks h)
  have con2 : Hid (∀ w', Hs w0 w' (CoV p v s :: Blk bm (.cells #[.int .i64 kd, .int .u64 ep, .int .u64 n, .int .i64 tk] 32 (0, 0)) :: R) → ∀ q, Calls Try.prog 23 #[v.vs, .int .i64 tk] (w'.drewN q) fun e w'' => e = .returned (.bool (s.sinks.contains tk)) ∧ ∃ m, w'' = w'.drewN m) := fun w' h => con23 _ _ _ _ (CoV.sinks h)
  have k0 : w1.cell? ⟨p, 0, none⟩ = some (v.vt) := CoV.cell H1.out 0 rfl
  have k1 : w1.cell? ⟨p, 1, none⟩ = some (v.vs) := CoV.cell H1.out 1 rfl
  have k4 : w1.cell? ⟨p, 4, none⟩ = some (.int .u64 s.epoch) := CoV.cell H1.out 4 rfl
  have k5 : w1.cell? ⟨p, 5, none⟩ = some (.int .u64 s.from_) := CoV.cell H1.out 5 rfl
  have k7 : w1.cell? ⟨p, 7, none⟩ = some (.map (some v.m1)) := CoV.cell H1.out 7 rfl
  have k8 : w1.cell? ⟨p, 8, none⟩ = some (.map (some v.m2)) := CoV.cell H1.out 8 rfl
  have k9 : w1.cell? ⟨p, 9, none⟩ = some (.map (some v.m3)) := CoV.cell H1.out 9 rfl
  have k10 : w1.cell? ⟨p, 10, none⟩ = some (.int .u64 s.under) := CoV.cell H1.out 10 rfl
  have k11 : w1.cell? ⟨p, 11, none⟩ = some (.int .u64 s.durable) := CoV.cell H1.out 11 rfl
  have k12 : w1.cell? ⟨p, 12, none⟩ = some (.bool s.stored) := CoV.cell H1.out 12 rfl
  have k14 : w1.cell? ⟨p, 14, none⟩ = some (.int .i64 s.ticks) := CoV.cell H1.out 14 rfl
  have b0 : w1.cell? ⟨bm, 0, none⟩ = some (.int .i64 kd) := H1.out.at1.cellOf 0 rfl
  have b1 : w1.cell? ⟨bm, 1, none⟩ = some (.int .u64 ep) := H1.out.at1.cellOf 1 rfl
  have b2 : w1.cell? ⟨bm, 2, none⟩ = some (.int .u64 n) := H1.out.at1.cellOf 2 rfl
  have b3 : w1.cell? ⟨bm, 3, none⟩ = some (.int .i64 tk) := H1.out.at1.cellOf 3 rfl
  have l1 : ∀ q, (Instr.lookup 48 (.map (some v.m1)) (.int .i64 tk) false).run Try.prog (w1.drewN q) = .ok (.bool (s.ready tk)) (w1.drewN q) := fun q => CoV.look1 (H1.out.drewN q) tk
  have c1 := con1.out _ H1.out
  have c2 := con2.out _ H1.out
  obtain ⟨tb, htb⟩ : ∃ tb, s.tasks.contains tk = tb := ⟨_, rfl⟩
  rw [htb] at c1 con1
  by_cases hearly : ep ≠ s.epoch ∨ s.epoch = 0 ∨ tb = false
  · have htk : Hid (s.take (kd, ep, n, tk) = (s, 0)) := by
      show _ = _
      unfold Co.take
      rw [if_pos (by rw [htb]; exact hearly)]
    by_cases h1 : ep = s.epoch
    · by_cases h2 : s.epoch = 0
      · have h1' : (ep != s.epoch) = false := by rw [bne_eq_false_iff_eq]; exact h1
        have h2' : (s.epoch == 0) = true := by rw [beq_iff_eq]; exact h2
        clear h1 h2 hearly htb
        go_enter Try.func14, Try.ntmps14
        go_upto_region 1 with (fail)
        rw [← hw1.out, ← hbm.out]
        go_quiet (first | (go_at_call 23; first | exact c1 _ | exact c2 _))
        replace H1 := Lib.hid (H1.out.drewN nq)
        clear k0 k1 k4 k5 k7 k8 k9 k10 k11 k12 k14 b0 b1 b2 b3 l1 c1 c2
        generalize World.drewN w1 nq = w2 at *
        have k0 : w2.cell? ⟨p, 0, none⟩ = some (v.vt) := CoV.cell H1.out 0 rfl
        have k1 : w2.cell? ⟨p, 1, none⟩ = some (v.vs) := CoV.cell H1.out 1 rfl
        have k4 : w2.cell? ⟨p, 4, none⟩ = some (.int .u64 s.epoch) := CoV.cell H1.out 4 rfl
        have k5 : w2.cell? ⟨p, 5, none⟩ = some (.int .u64 s.from_) := CoV.cell H1.out 5 rfl
        have k7 : w2.cell? ⟨p, 7, none⟩ = some (.map (some v.m1)) := CoV.cell H1.out 7 rfl
        have k8 : w2.cell? ⟨p, 8, none⟩ = some (.map (some v.m2)) := CoV.cell H1.out 8 rfl
        have k9 : w2.cell? ⟨p, 9, none⟩ = some (.map (some v.m3)) := CoV.cell H1.out 9 rfl
        have k10 : w2.cell? ⟨p, 10, none⟩ = some (.int .u64 s.under) := CoV.cell H1.out 10 rfl
        have k11 : w2.cell? ⟨p, 11, none⟩ = some (.int .u64 s.durable) := CoV.cell H1.out 11 rfl
        have k12 : w2.cell? ⟨p, 12, none⟩ = some (.bool s.stored) := CoV.cell H1.out 12 rfl
        have k14 : w2.cell? ⟨p, 14, none⟩ = some (.int .i64 s.ticks) := CoV.cell H1.out 14 rfl
        have b0 : w2.cell? ⟨bm, 0, none⟩ = some (.int .i64 kd) := H1.out.at1.cellOf 0 rfl
        have b1 : w2.cell? ⟨bm, 1, none⟩ = some (.int .u64 ep) := H1.out.at1.cellOf 1 rfl
        have b2 : w2.cell? ⟨bm, 2, none⟩ = some (.int .u64 n) := H1.out.at1.cellOf 2 rfl
        have b3 : w2.cell? ⟨bm, 3, none⟩ = some (.int .i64 tk) := H1.out.at1.cellOf 3 rfl
        have l1 : ∀ q, (Instr.lookup 48 (.map (some v.m1)) (.int .i64 tk) false).run Try.prog (w2.drewN q) = .ok (.bool (s.ready tk)) (w2.drewN q) := fun q => CoV.look1 (H1.out.drewN q) tk
        have c1 := con1.out _ H1.out
        have c2 := con2.out _ H1.out
        go_wp2_with fail
        go_ret2
        rw [htk.out]
        exact ⟨rfl, H1.out.at1.tail⟩
      · have h3 : tb = false := by rcases hearly with h | h | h; exact absurd h1 h; exact absurd h h2; exact h
        have h1' : (ep != s.epoch) = false := by rw [bne_eq_false_iff_eq]; exact h1
        have h2' : (s.epoch == 0) = false := by rw [beq_eq_false_iff_ne]; exact h2
        subst h3
        clear h1 h2 hearly htb
        go_enter Try.func14, Try.ntmps14
        go_upto_region 1 with (fail)
        rw [← hw1.out, ← hbm.out]
        go_quiet (first | (go_at_call 23; first | exact c1 _ | exact c2 _))
        replace H1 := Lib.hid (H1.out.drewN nq)
        clear k0 k1 k4 k5 k7 k8 k9 k10 k11 k12 k14 b0 b1 b2 b3 l1 c1 c2
        generalize World.drewN w1 nq = w2 at *
        have k0 : w2.cell? ⟨p, 0, none⟩ = some (v.vt) := CoV.cell H1.out 0 rfl
        have k1 : w2.cell? ⟨p, 1, none⟩ = some (v.vs) := CoV.cell H1.out 1 rfl
        have k4 : w2.cell? ⟨p, 4, none⟩ = some (.int .u64 s.epoch) := CoV.cell H1.out 4 rfl
        have k5 : w2.cell? ⟨p, 5, none⟩ = some (.int .u64 s.from_) := CoV.cell H1.out 5 rfl
        have k7 : w2.cell? ⟨p, 7, none⟩ = some (.map (some v.m1)) := CoV.cell H1.out 7 rfl
        have k8 : w2.cell? ⟨p, 8, none⟩ = some (.map (some v.m2)) := CoV.cell H1.out 8 rfl
        have k9 : w2.cell? ⟨p, 9, none⟩ = some (.map (some v.m3)) := CoV.cell H1.out 9 rfl
        have k10 : w2.cell? ⟨p, 10, none⟩ = some (.int .u64 s.under) := CoV.cell H1.out 10 rfl
        have k11 : w2.cell? ⟨p, 11, none⟩ = some (.int .u64 s.durable) := CoV.cell H1.out 11 rfl
        have k12 : w2.cell? ⟨p, 12, none⟩ = some (.bool s.stored) := CoV.cell H1.out 12 rfl
        have k14 : w2.cell? ⟨p, 14, none⟩ = some (.int .i64 s.ticks) := CoV.cell H1.out 14 rfl
        have b0 : w2.cell? ⟨bm, 0, none⟩ = some (.int .i64 kd) := H1.out.at1.cellOf 0 rfl
        have b1 : w2.cell? ⟨bm, 1, none⟩ = some (.int .u64 ep) := H1.out.at1.cellOf 1 rfl
        have b2 : w2.cell? ⟨bm, 2, none⟩ = some (.int .u64 n) := H1.out.at1.cellOf 2 rfl
        have b3 : w2.cell? ⟨bm, 3, none⟩ = some (.int .i64 tk) := H1.out.at1.cellOf 3 rfl
        have l1 : ∀ q, (Instr.lookup 48 (.map (some v.m1)) (.int .i64 tk) false).run Try.prog (w2.drewN q) = .ok (.bool (s.ready tk)) (w2.drewN q) := fun q => CoV.look1 (H1.out.drewN q) tk
        have c1 := con1.out _ H1.out
        have c2 := con2.out _ H1.out
        go_wp2_with fail
        go_ret2
        rw [htk.out]
        exact ⟨rfl, H1.out.at1.tail⟩
    · have h1' : (ep != s.epoch) = true := by rw [bne_iff_ne]; exact h1
      clear h1 hearly htb
      go_enter Try.func14, Try.ntmps14
      go_upto_region 1 with (fail)
      rw [← hw1.out, ← hbm.out]
      go_quiet (first | (go_at_call 23; first | exact c1 _ | exact c2 _))
      replace H1 := Lib.hid (H1.out.drewN nq)
      clear k0 k1 k4 k5 k7 k8 k9 k10 k11 k12 k14 b0 b1 b2 b3 l1 c1 c2
      generalize World.drewN w1 nq = w2 at *
      have k0 : w2.cell? ⟨p, 0, none⟩ = some (v.vt) := CoV.cell H1.out 0 rfl
      have k1 : w2.cell? ⟨p, 1, none⟩ = some (v.vs) := CoV.cell H1.out 1 rfl
      have k4 : w2.cell? ⟨p, 4, none⟩ = some (.int .u64 s.epoch) := CoV.cell H1.out 4 rfl
      have k5 : w2.cell? ⟨p, 5, none⟩ = some (.int .u64 s.from_) := CoV.cell H1.out 5 rfl
      have k7 : w2.cell? ⟨p, 7, none⟩ = some (.map (some v.m1)) := CoV.cell H1.out 7 rfl
      have k8 : w2.cell? ⟨p, 8, none⟩ = some (.map (some v.m2)) := CoV.cell H1.out 8 rfl
      have k9 : w2.cell? ⟨p, 9, none⟩ = some (.map (some v.m3)) := CoV.cell H1.out 9 rfl
      have k10 : w2.cell? ⟨p, 10, none⟩ = some (.int .u64 s.under) := CoV.cell H1.out 10 rfl
      have k11 : w2.cell? ⟨p, 11, none⟩ = some (.int .u64 s.durable) := CoV.cell H1.out 11 rfl
      have k12 : w2.cell? ⟨p, 12, none⟩ = some (.bool s.stored) := CoV.cell H1.out 12 rfl
      have k14 : w2.cell? ⟨p, 14, none⟩ = some (.int .i64 s.ticks) := CoV.cell H1.out 14 rfl
      have b0 : w2.cell? ⟨bm, 0, none⟩ = some (.int .i64 kd) := H1.out.at1.cellOf 0 rfl
      have b1 : w2.cell? ⟨bm, 1, none⟩ = some (.int .u64 ep) := H1.out.at1.cellOf 1 rfl
      have b2 : w2.cell? ⟨bm, 2, none⟩ = some (.int .u64 n) := H1.out.at1.cellOf 2 rfl
      have b3 : w2.cell? ⟨bm, 3, none⟩ = some (.int .i64 tk) := H1.out.at1.cellOf 3 rfl
      have l1 : ∀ q, (Instr.lookup 48 (.map (some v.m1)) (.int .i64 tk) false).run Try.prog (w2.drewN q) = .ok (.bool (s.ready tk)) (w2.drewN q) := fun q => CoV.look1 (H1.out.drewN q) tk
      have c1 := con1.out _ H1.out
      have c2 := con2.out _ H1.out
      go_wp2_with fail
      go_ret2
      rw [htk.out]
      exact ⟨rfl, H1.out.at1.tail⟩
  · obtain ⟨h1, h2, h3⟩ : ep = s.epoch ∧ s.epoch ≠ 0 ∧ tb = true := by
      refine ⟨Decidable.not_not.1 fun h => hearly (.inl h), fun h => hearly (.inr (.inl h)), ?_⟩
      cases tb with
      | true => rfl
      | false => exact absurd (.inr (.inr rfl)) hearly
    have htk0 := Lib.hid (show s.take (kd, ep, n, tk) = if kd = 6 ∧ n = s.from_ ∧ s.ready tk = false then (s.readied tk, 0) else if kd = 2 ∧ s.under ≠ 0 ∧ n = s.under ∧ s.stored = false then s.ack tk
      else if kd = 4 ∧ s.sinks.contains tk = true ∧ n = s.durable then ({ s with done := updf s.done tk n }, 0) else (s, 0) by unfold Co.take; rw [if_neg (by rw [htb]; exact hearly)])
    have h1' : (ep != s.epoch) = false := by rw [bne_eq_false_iff_eq]; exact h1
    have h2' : (s.epoch == 0) = false := by rw [beq_eq_false_iff_ne]; exact h2
    subst h3
    clear h1 h2 hearly htb
    go_enter Try.func14, Try.ntmps14
    go_upto_region 1 with (fail)
    rw [← hw1.out, ← hbm.out]
    clear hw1 hbm
    go_quiet (first | (go_at_call 23; first | exact c1 _ | exact c2 _))
    replace H1 := Lib.hid (H1.out.drewN nq)
    clear k0 k1 k4 k5 k7 k8 k9 k10 k11 k12 k14 b0 b1 b2 b3 l1 c1 c2
    generalize World.drewN w1 nq = w2 at *
    have k0 : w2.cell? ⟨p, 0, none⟩ = some (v.vt) := CoV.cell H1.out 0 rfl
    have k1 : w2.cell? ⟨p, 1, none⟩ = some (v.vs) := CoV.cell H1.out 1 rfl
    have k4 : w2.cell? ⟨p, 4, none⟩ = some (.int .u64 s.epoch) := CoV.cell H1.out 4 rfl
    have k5 : w2.cell? ⟨p, 5, none⟩ = some (.int .u64 s.from_) := CoV.cell H1.out 5 rfl
    have k7 : w2.cell? ⟨p, 7, none⟩ = some (.map (some v.m1)) := CoV.cell H1.out 7 rfl
    have k8 : w2.cell? ⟨p, 8, none⟩ = some (.map (some v.m2)) := CoV.cell H1.out 8 rfl
    have k9 : w2.cell? ⟨p, 9, none⟩ = some (.map (some v.m3)) := CoV.cell H1.out 9 rfl
    have k10 : w2.cell? ⟨p, 10, none⟩ = some (.int .u64 s.under) := CoV.cell H1.out 10 rfl
    have k11 : w2.cell? ⟨p, 11, none⟩ = some (.int .u64 s.durable) := CoV.cell H1.out 11 rfl
    have k12 : w2.cell? ⟨p, 12, none⟩ = some (.bool s.stored) := CoV.cell H1.out 12 rfl
    have k14 : w2.cell? ⟨p, 14, none⟩ = some (.int .i64 s.ticks) := CoV.cell H1.out 14 rfl
    have b0 : w2.cell? ⟨bm, 0, none⟩ = some (.int .i64 kd) := H1.out.at1.cellOf 0 rfl
    have b1 : w2.cell? ⟨bm, 1, none⟩ = some (.int .u64 ep) := H1.out.at1.cellOf 1 rfl
    have b2 : w2.cell? ⟨bm, 2, none⟩ = some (.int .u64 n) := H1.out.at1.cellOf 2 rfl
    have b3 : w2.cell? ⟨bm, 3, none⟩ = some (.int .i64 tk) := H1.out.at1.cellOf 3 rfl
    have l1 : ∀ q, (Instr.lookup 48 (.map (some v.m1)) (.int .i64 tk) false).run Try.prog (w2.drewN q) = .ok (.bool (s.ready tk)) (w2.drewN q) := fun q => CoV.look1 (H1.out.drewN q) tk
    have c1 := con1.out _ H1.out
    have c2 := con2.out _ H1.out
    clear h1' h2'
    by_cases e6 : kd = 6
    · have e6' : (kd == 6) = true := by rw [beq_iff_eq]; exact e6
      have e2' : (kd == 2) = false := by rw [beq_eq_false_iff_ne]; omega
      have e4' : (kd == 4) = false := by rw [beq_eq_false_iff_ne]; omega
      by_cases en : n = s.from_
      · have en' : (n == s.from_) = true := by rw [beq_iff_eq]; exact en
        cases er : s.ready tk with
        | true =>
          have htk : Hid (s.take (kd, ep, n, tk) = (s, 0)) := by show _ = _; rw [htk0.out]; rw [if_neg (by rw [er]; simp), if_neg (by omega), if_neg (by omega)]
          clear htk0 e6 en
          go_wp2_with fail
          go_quiet (first | (go_at_call 23; first | exact c1 _ | exact c2 _))
          replace H1 := Lib.hid (H1.out.drewN nq)
          clear k0 k1 k4 k5 k7 k8 k9 k10 k11 k12 k14 b0 b1 b2 b3 l1 c1 c2
          generalize World.drewN w2 nq = w3 at *
          have k0 : w3.cell? ⟨p, 0, none⟩ = some (v.vt) := CoV.cell H1.out 0 rfl
          have k1 : w3.cell? ⟨p, 1, none⟩ = some (v.vs) := CoV.cell H1.out 1 rfl
          have k4 : w3.cell? ⟨p, 4, none⟩ = some (.int .u64 s.epoch) := CoV.cell H1.out 4 rfl
          have k5 : w3.cell? ⟨p, 5, none⟩ = some (.int .u64 s.from_) := CoV.cell H1.out 5 rfl
          have k7 : w3.cell? ⟨p, 7, none⟩ = some (.map (some v.m1)) := CoV.cell H1.out 7 rfl
          have k8 : w3.cell? ⟨p, 8, none⟩ = some (.map (some v.m2)) := CoV.cell H1.out 8 rfl
          have k9 : w3.cell? ⟨p, 9, none⟩ = some (.map (some v.m3)) := CoV.cell H1.out 9 rfl
          have k10 : w3.cell? ⟨p, 10, none⟩ = some (.int .u64 s.under) := CoV.cell H1.out 10 rfl
          have k11 : w3.cell? ⟨p, 11, none⟩ = some (.int .u64 s.durable) := CoV.cell H1.out 11 rfl
          have k12 : w3.cell? ⟨p, 12, none⟩ = some (.bool s.stored) := CoV.cell H1.out 12 rfl
          have k14 : w3.cell? ⟨p, 14, none⟩ = some (.int .i64 s.ticks) := CoV.cell H1.out 14 rfl
          have b0 : w3.cell? ⟨bm, 0, none⟩ = some (.int .i64 kd) := H1.out.at1.cellOf 0 rfl
          have b1 : w3.cell? ⟨bm, 1, none⟩ = some (.int .u64 ep) := H1.out.at1.cellOf 1 rfl
          have b2 : w3.cell? ⟨bm, 2, none⟩ = some (.int .u64 n) := H1.out.at1.cellOf 2 rfl
          have b3 : w3.cell? ⟨bm, 3, none⟩ = some (.int .i64 tk) := H1.out.at1.cellOf 3 rfl
          have l1 : ∀ q, (Instr.lookup 48 (.map (some v.m1)) (.int .i64 tk) false).run Try.prog (w3.drewN q) = .ok (.bool (s.ready tk)) (w3.drewN q) := fun q => CoV.look1 (H1.out.drewN q) tk
          have c1 := con1.out _ H1.out
          have c2 := con2.out _ H1.out
          try (rw [es] at k12)
          go_wp2_with fail
          go_quiet (first | (go_at_call 23; first | exact c1 _ | exact c2 _))
          replace H1 := Lib.hid (H1.out.drewN nq)
          clear k0 k1 k4 k5 k7 k8 k9 k10 k11 k12 k14 b0 b1 b2 b3 l1 c1 c2
          generalize World.drewN w3 nq = w4 at *
          have k0 : w4.cell? ⟨p, 0, none⟩ = some (v.vt) := CoV.cell H1.out 0 rfl
          have k1 : w4.cell? ⟨p, 1, none⟩ = some (v.vs) := CoV.cell H1.out 1 rfl
          have k4 : w4.cell? ⟨p, 4, none⟩ = some (.int .u64 s.epoch) := CoV.cell H1.out 4 rfl
          have k5 : w4.cell? ⟨p, 5, none⟩ = some (.int .u64 s.from_) := CoV.cell H1.out 5 rfl
          have k7 : w4.cell? ⟨p, 7, none⟩ = some (.map (some v.m1)) := CoV.cell H1.out 7 rfl
          have k8 : w4.cell? ⟨p, 8, none⟩ = some (.map (some v.m2)) := CoV.cell H1.out 8 rfl
          have k9 : w4.cell? ⟨p, 9, none⟩ = some (.map (some v.m3)) := CoV.cell H1.out 9 rfl
          have k10 : w4.cell? ⟨p, 10, none⟩ = some (.int .u64 s.under) := CoV.cell H1.out 10 rfl
          have k11 : w4.cell? ⟨p, 11, none⟩ = some (.int .u64 s.durable) := CoV.cell H1.out 11 rfl
          have k12 : w4.cell? ⟨p, 12, none⟩ = some (.bool s.stored) := CoV.cell H1.out 12 rfl
          have k14 : w4.cell? ⟨p, 14, none⟩ = some (.int .i64 s.ticks) := CoV.cell H1.out 14 rfl
          have b0 : w4.cell? ⟨bm, 0, none⟩ = some (.int .i64 kd) := H1.out.at1.cellOf 0 rfl
          have b1 : w4.cell? ⟨bm, 1, none⟩ = some (.int .u64 ep) := H1.out.at1.cellOf 1 rfl
          have b2 : w4.cell? ⟨bm, 2, none⟩ = some (.int .u64 n) := H1.out.at1.cellOf 2 rfl
          have b3 : w4.cell? ⟨bm, 3, none⟩ = some (.int .i64 tk) := H1.out.at1.cellOf 3 rfl
          have l1 : ∀ q, (Instr.lookup 48 (.map (some v.m1)) (.int .i64 tk) false).run Try.prog (w4.drewN q) = .ok (.bool (s.ready tk)) (w4.drewN q) := fun q => CoV.look1 (H1.out.drewN q) tk
          have c1 := con1.out _ H1.out
          have c2 := con2.out _ H1.out
          try (rw [es] at k12)
          go_wp2_with fail
          go_quiet (first | (go_at_call 23; first | exact c1 _ | exact c2 _))
          replace H1 := Lib.hid (H1.out.drewN nq)
          clear k0 k1 k4 k5 k7 k8 k9 k10 k11 k12 k14 b0 b1 b2 b3 l1 c1 c2
          generalize World.drewN w4 nq = w5 at *
          have k0 : w5.cell? ⟨p, 0, none⟩ = some (v.vt) := CoV.cell H1.out 0 rfl
          have k1 : w5.cell? ⟨p, 1, none⟩ = some (v.vs) := CoV.cell H1.out 1 rfl
          have k4 : w5.cell? ⟨p, 4, none⟩ = some (.int .u64 s.epoch) := CoV.cell H1.out 4 rfl
          have k5 : w5.cell? ⟨p, 5, none⟩ = some (.int .u64 s.from_) := CoV.cell H1.out 5 rfl
          have k7 : w5.cell? ⟨p, 7, none⟩ = some (.map (some v.m1)) := CoV.cell H1.out 7 rfl
          have k8 : w5.cell? ⟨p, 8, none⟩ = some (.map (some v.m2)) := CoV.cell H1.out 8 rfl
          have k9 : w5.cell? ⟨p, 9, none⟩ = some (.map (some v.m3)) := CoV.cell H1.out 9 rfl
          have k10 : w5.cell? ⟨p, 10, none⟩ = some (.int .u64 s.under) := CoV.cell H1.out 10 rfl
          have k11 : w5.cell? ⟨p, 11, none⟩ = some (.int .u64 s.durable) := CoV.cell H1.out 11 rfl
          have k12 : w5.cell? ⟨p, 12, none⟩ = some (.bool s.stored) := CoV.cell H1.out 12 rfl
          have k14 : w5.cell? ⟨p, 14, none⟩ = some (.int .i64 s.ticks) := CoV.cell H1.out 14 rfl
          have b0 : w5.cell? ⟨bm, 0, none⟩ = some (.int .i64 kd) := H1.out.at1.cellOf 0 rfl
          have b1 : w5.cell? ⟨bm, 1, none⟩ = some (.int .u64 ep) := H1.out.at1.cellOf 1 rfl
          have b2 : w5.cell? ⟨bm, 2, none⟩ = some (.int .u64 n) := H1.out.at1.cellOf 2 rfl
          have b3 : w5.cell? ⟨bm, 3, none⟩ = some (.int .i64 tk) := H1.out.at1.cellOf 3 rfl
          have l1 : ∀ q, (Instr.lookup 48 (.map (some v.m1)) (.int .i64 tk) false).run Try.prog (w5.drewN q) = .ok (.bool (s.ready tk)) (w5.drewN q) := fun q => CoV.look1 (H1.out.drewN q) tk
          have c1 := con1.out _ H1.out
          have c2 := con2.out _ H1.out
          go_wp2_with fail
          go_ret2
          rw [htk.out]
          exact ⟨rfl, H1.out.at1.tail⟩
        | false =>
          have htk : Hid (s.take (kd, ep, n, tk) = (s.readied tk, 0)) := by show _ = _; rw [htk0.out, if_pos ⟨e6, en, er⟩]
          clear htk0 e6 en
          go_wp2_with fail
          go_quiet (first | (go_at_call 23; first | exact c1 _ | exact c2 _))
          replace H1 := Lib.hid (H1.out.drewN nq)
          clear k0 k1 k4 k5 k7 k8 k9 k10 k11 k12 k14 b0 b1 b2 b3 l1 c1 c2
          generalize World.drewN w2 nq = w3 at *
          have k0 : w3.cell? ⟨p, 0, none⟩ = some (v.vt) := CoV.cell H1.out 0 rfl
          have k1 : w3.cell? ⟨p, 1, none⟩ = some (v.vs) := CoV.cell H1.out 1 rfl
          have k4 : w3.cell? ⟨p, 4, none⟩ = some (.int .u64 s.epoch) := CoV.cell H1.out 4 rfl
          have k5 : w3.cell? ⟨p, 5, none⟩ = some (.int .u64 s.from_) := CoV.cell H1.out 5 rfl
          have k7 : w3.cell? ⟨p, 7, none⟩ = some (.map (some v.m1)) := CoV.cell H1.out 7 rfl
          have k8 : w3.cell? ⟨p, 8, none⟩ = some (.map (some v.m2)) := CoV.cell H1.out 8 rfl
          have k9 : w3.cell? ⟨p, 9, none⟩ = some (.map (some v.m3)) := CoV.cell H1.out 9 rfl
          have k10 : w3.cell? ⟨p, 10, none⟩ = some (.int .u64 s.under) := CoV.cell H1.out 10 rfl
          have k11 : w3.cell? ⟨p, 11, none⟩ = some (.int .u64 s.durable) := CoV.cell H1.out 11 rfl
          have k12 : w3.cell? ⟨p, 12, none⟩ = some (.bool s.stored) := CoV.cell H1.out 12 rfl
          have k14 : w3.cell? ⟨p, 14, none⟩ = some (.int .i64 s.ticks) := CoV.cell H1.out 14 rfl
          have b0 : w3.cell? ⟨bm, 0, none⟩ = some (.int .i64 kd) := H1.out.at1.cellOf 0 rfl
          have b1 : w3.cell? ⟨bm, 1, none⟩ = some (.int .u64 ep) := H1.out.at1.cellOf 1 rfl
          have b2 : w3.cell? ⟨bm, 2, none⟩ = some (.int .u64 n) := H1.out.at1.cellOf 2 rfl
          have b3 : w3.cell? ⟨bm, 3, none⟩ = some (.int .i64 tk) := H1.out.at1.cellOf 3 rfl
          have l1 : ∀ q, (Instr.lookup 48 (.map (some v.m1)) (.int .i64 tk) false).run Try.prog (w3.drewN q) = .ok (.bool (s.ready tk)) (w3.drewN q) := fun q => CoV.look1 (H1.out.drewN q) tk
          have c1 := con1.out _ H1.out
          have c2 := con2.out _ H1.out
          go_wp2_with fail
          go_still_tail 6, mixed
          change wpList _ _ _ _ _ w3.drew
          have H2 := Lib.hid (CoV.open_ H1.out.drew)
          clear k0 k1 k4 k5 k7 k8 k9 k10 k11 k12 k14 b0 b1 b2 b3 l1 c1 c2 H1 er
          generalize w3.drew = w4 at *
          go_wp2_with (at_mapUpdate; refine wpList_mf_put (enc := Value.bool) (z0 := false) rfl (.tmp 56) (.tmp 58) (.const (.bool true)) 48 rfl 3 4 Try.underlying48 Try.underlying3 rfl H2.out.at3 tk true rfl rfl ?_)
          intro w5 H3
          obtain ⟨s1, hs1⟩ : ∃ s1, s1 = { s with ready := updf s.ready tk true } := ⟨_, rfl⟩
          have H4 := CoV.mk_ (p := p) (v := v) (s := { s with ready := updf s.ready tk true }) H3.at3.at3.at3
          rw [← hs1] at H4
          have hrd : Hid (s.readied tk = if s1.all s1.ready then { s1 with since := s1.ticks } else s1) := by show _ = _; rw [hs1]; rfl
          have hl1 : s1.tasks.length ≤ 1000 := by rw [hs1]; exact hlen
          replace H4 := Lib.hid H4
          clear H2 H3 hs1
          have k7 : w5.cell? ⟨p, 7, none⟩ = some (.map (some v.m1)) := CoV.cell H4.out 7 rfl
          go_wp2_with fail
          refine (all26 p v s1 _ w0 _ H4.out v.m1 s1.ready (fun w' R' h x => CoV.look1 h x) hl1).mono ?_
          cases hal : s1.all s1.ready with
          | true =>
            rintro e w6 ⟨rfl, H5⟩
            clear H4 k7
            have k14 : w6.cell? ⟨p, 14, none⟩ = some (.int .i64 s1.ticks) := CoV.cell H5 14 rfl
            have k16 : w6.cell? ⟨p, 16, none⟩ = some (.int .i64 s1.since) := CoV.cell H5 16 rfl
            have f16 := CoV.free H5 16
            have O := Lib.hid (CoV.mk_ (p := p) (v := v) (s := { s1 with since := s1.ticks }) ((CoV.open_ H5).setCell (i := 16) (.int .i64 s1.ticks)))
            go_wp2_with fail
            go_ret2
            rw [htk.out, hrd.out, hal]
            exact ⟨rfl, O.out.at1.tail⟩
          | false =>
            rintro e w6 ⟨rfl, H5⟩
            clear H4 k7
            go_wp2_with fail
            go_ret2
            rw [htk.out, hrd.out, hal]
            exact ⟨rfl, H5.at1.tail⟩
      · have en' : (n == s.from_) = false := by rw [beq_eq_false_iff_ne]; exact en
        have htk : Hid (s.take (kd, ep, n, tk) = (s, 0)) := by show _ = _; rw [htk0.out]; rw [if_neg (fun h => en h.2.1), if_neg (by omega), if_neg (by omega)]
        clear htk0 e6 en
        go_wp2_with fail
        go_quiet (first | (go_at_call 23; first | exact c1 _ | exact c2 _))
        replace H1 := Lib.hid (H1.out.drewN nq)
        clear k0 k1 k4 k5 k7 k8 k9 k10 k11 k12 k14 b0 b1 b2 b3 l1 c1 c2
        generalize World.drewN w2 nq = w3 at *
        have k0 : w3.cell? ⟨p, 0, none⟩ = some (v.vt) := CoV.cell H1.out 0 rfl
        have k1 : w3.cell? ⟨p, 1, none⟩ = some (v.vs) := CoV.cell H1.out 1 rfl
        have k4 : w3.cell? ⟨p, 4, none⟩ = some (.int .u64 s.epoch) := CoV.cell H1.out 4 rfl
        have k5 : w3.cell? ⟨p, 5, none⟩ = some (.int .u64 s.from_) := CoV.cell H1.out 5 rfl
        have k7 : w3.cell? ⟨p, 7, none⟩ = some (.map (some v.m1)) := CoV.cell H1.out 7 rfl
        have k8 : w3.cell? ⟨p, 8, none⟩ = some (.map (some v.m2)) := CoV.cell H1.out 8 rfl
        have k9 : w3.cell? ⟨p, 9, none⟩ = some (.map (some v.m3)) := CoV.cell H1.out 9 rfl
        have k10 : w3.cell? ⟨p, 10, none⟩ = some (.int .u64 s.under) := CoV.cell H1.out 10 rfl
        have k11 : w3.cell? ⟨p, 11, none⟩ = some (.int .u64 s.durable) := CoV.cell H1.out 11 rfl
        have k12 : w3.cell? ⟨p, 12, none⟩ = some (.bool s.stored) := CoV.cell H1.out 12 rfl
        have k14 : w3.cell? ⟨p, 14, none⟩ = some (.int .i64 s.ticks) := CoV.cell H1.out 14 rfl
        have b0 : w3.cell? ⟨bm, 0, none⟩ = some (.int .i64 kd) := H1.out.at1.cellOf 0 rfl
        have b1 : w3.cell? ⟨bm, 1, none⟩ = some (.int .u64 ep) := H1.out.at1.cellOf 1 rfl
        have b2 : w3.cell? ⟨bm, 2, none⟩ = some (.int .u64 n) := H1.out.at1.cellOf 2 rfl
        have b3 : w3.cell? ⟨bm, 3, none⟩ = some (.int .i64 tk) := H1.out.at1.cellOf 3 rfl
        have l1 : ∀ q, (Instr.lookup 48 (.map (some v.m1)) (.int .i64 tk) false).run Try.prog (w3.drewN q) = .ok (.bool (s.ready tk)) (w3.drewN q) := fun q => CoV.look1 (H1.out.drewN q) tk
        have c1 := con1.out _ H1.out
        have c2 := con2.out _ H1.out
        try (rw [es] at k12)
        go_wp2_with fail
        go_quiet (first | (go_at_call 23; first | exact c1 _ | exact c2 _))
        replace H1 := Lib.hid (H1.out.drewN nq)
        clear k0 k1 k4 k5 k7 k8 k9 k10 k11 k12 k14 b0 b1 b2 b3 l1 c1 c2
        generalize World.drewN w3 nq = w4 at *
        have k0 : w4.cell? ⟨p, 0, none⟩ = some (v.vt) := CoV.cell H1.out 0 rfl
        have k1 : w4.cell? ⟨p, 1, none⟩ = some (v.vs) := CoV.cell H1.out 1 rfl
        have k4 : w4.cell? ⟨p, 4, none⟩ = some (.int .u64 s.epoch) := CoV.cell H1.out 4 rfl
        have k5 : w4.cell? ⟨p, 5, none⟩ = some (.int .u64 s.from_) := CoV.cell H1.out 5 rfl
        have k7 : w4.cell? ⟨p, 7, none⟩ = some (.map (some v.m1)) := CoV.cell H1.out 7 rfl
        have k8 : w4.cell? ⟨p, 8, none⟩ = some (.map (some v.m2)) := CoV.cell H1.out 8 rfl
        have k9 : w4.cell? ⟨p, 9, none⟩ = some (.map (some v.m3)) := CoV.cell H1.out 9 rfl
        have k10 : w4.cell? ⟨p, 10, none⟩ = some (.int .u64 s.under) := CoV.cell H1.out 10 rfl
        have k11 : w4.cell? ⟨p, 11, none⟩ = some (.int .u64 s.durable) := CoV.cell H1.out 11 rfl
        have k12 : w4.cell? ⟨p, 12, none⟩ = some (.bool s.stored) := CoV.cell H1.out 12 rfl
        have k14 : w4.cell? ⟨p, 14, none⟩ = some (.int .i64 s.ticks) := CoV.cell H1.out 14 rfl
        have b0 : w4.cell? ⟨bm, 0, none⟩ = some (.int .i64 kd) := H1.out.at1.cellOf 0 rfl
        have b1 : w4.cell? ⟨bm, 1, none⟩ = some (.int .u64 ep) := H1.out.at1.cellOf 1 rfl
        have b2 : w4.cell? ⟨bm, 2, none⟩ = some (.int .u64 n) := H1.out.at1.cellOf 2 rfl
        have b3 : w4.cell? ⟨bm, 3, none⟩ = some (.int .i64 tk) := H1.out.at1.cellOf 3 rfl
        have l1 : ∀ q, (Instr.lookup 48 (.map (some v.m1)) (.int .i64 tk) false).run Try.prog (w4.drewN q) = .ok (.bool (s.ready tk)) (w4.drewN q) := fun q => CoV.look1 (H1.out.drewN q) tk
        have c1 := con1.out _ H1.out
        have c2 := con2.out _ H1.out
        try (rw [es] at k12)
        go_wp2_with fail
        go_quiet (first | (go_at_call 23; first | exact c1 _ | exact c2 _))
        replace H1 := Lib.hid (H1.out.drewN nq)
        clear k0 k1 k4 k5 k7 k8 k9 k10 k11 k12 k14 b0 b1 b2 b3 l1 c1 c2
        generalize World.drewN w4 nq = w5 at *
        have k0 : w5.cell? ⟨p, 0, none⟩ = some (v.vt) := CoV.cell H1.out 0 rfl
        have k1 : w5.cell? ⟨p, 1, none⟩ = some (v.vs) := CoV.cell H1.out 1 rfl
        have k4 : w5.cell? ⟨p, 4, none⟩ = some (.int .u64 s.epoch) := CoV.cell H1.out 4 rfl
        have k5 : w5.cell? ⟨p, 5, none⟩ = some (.int .u64 s.from_) := CoV.cell H1.out 5 rfl
        have k7 : w5.cell? ⟨p, 7, none⟩ = some (.map (some v.m1)) := CoV.cell H1.out 7 rfl
        have k8 : w5.cell? ⟨p, 8, none⟩ = some (.map (some v.m2)) := CoV.cell H1.out 8 rfl
        have k9 : w5.cell? ⟨p, 9, none⟩ = some (.map (some v.m3)) := CoV.cell H1.out 9 rfl
        have k10 : w5.cell? ⟨p, 10, none⟩ = some (.int .u64 s.under) := CoV.cell H1.out 10 rfl
        have k11 : w5.cell? ⟨p, 11, none⟩ = some (.int .u64 s.durable) := CoV.cell H1.out 11 rfl
        have k12 : w5.cell? ⟨p, 12, none⟩ = some (.bool s.stored) := CoV.cell H1.out 12 rfl
        have k14 : w5.cell? ⟨p, 14, none⟩ = some (.int .i64 s.ticks) := CoV.cell H1.out 14 rfl
        have b0 : w5.cell? ⟨bm, 0, none⟩ = some (.int .i64 kd) := H1.out.at1.cellOf 0 rfl
        have b1 : w5.cell? ⟨bm, 1, none⟩ = some (.int .u64 ep) := H1.out.at1.cellOf 1 rfl
        have b2 : w5.cell? ⟨bm, 2, none⟩ = some (.int .u64 n) := H1.out.at1.cellOf 2 rfl
        have b3 : w5.cell? ⟨bm, 3, none⟩ = some (.int .i64 tk) := H1.out.at1.cellOf 3 rfl
        have l1 : ∀ q, (Instr.lookup 48 (.map (some v.m1)) (.int .i64 tk) false).run Try.prog (w5.drewN q) = .ok (.bool (s.ready tk)) (w5.drewN q) := fun q => CoV.look1 (H1.out.drewN q) tk
        have c1 := con1.out _ H1.out
        have c2 := con2.out _ H1.out
        go_wp2_with fail
        go_ret2
        rw [htk.out]
        exact ⟨rfl, H1.out.at1.tail⟩
    have e6' : (kd == 6) = false := by rw [beq_eq_false_iff_ne]; exact e6
    by_cases e2 : kd = 2
    · have e2' : (kd == 2) = true := by rw [beq_iff_eq]; exact e2
      have e4' : (kd == 4) = false := by rw [beq_eq_false_iff_ne]; omega
      by_cases eu : s.under = 0
      · have eu' : (s.under != 0) = false := by rw [bne_eq_false_iff_eq]; exact eu
        have htk : Hid (s.take (kd, ep, n, tk) = (s, 0)) := by show _ = _; rw [htk0.out]; rw [if_neg (fun h => e6 h.1), if_neg (fun h => h.2.1 eu), if_neg (by omega)]
        clear htk0 e6 e2 eu
        go_wp2_with fail
        go_quiet (first | (go_at_call 23; first | exact c1 _ | exact c2 _))
        replace H1 := Lib.hid (H1.out.drewN nq)
        clear k0 k1 k4 k5 k7 k8 k9 k10 k11 k12 k14 b0 b1 b2 b3 l1 c1 c2
        generalize World.drewN w2 nq = w3 at *
        have k0 : w3.cell? ⟨p, 0, none⟩ = some (v.vt) := CoV.cell H1.out 0 rfl
        have k1 : w3.cell? ⟨p, 1, none⟩ = some (v.vs) := CoV.cell H1.out 1 rfl
        have k4 : w3.cell? ⟨p, 4, none⟩ = some (.int .u64 s.epoch) := CoV.cell H1.out 4 rfl
        have k5 : w3.cell? ⟨p, 5, none⟩ = some (.int .u64 s.from_) := CoV.cell H1.out 5 rfl
        have k7 : w3.cell? ⟨p, 7, none⟩ = some (.map (some v.m1)) := CoV.cell H1.out 7 rfl
        have k8 : w3.cell? ⟨p, 8, none⟩ = some (.map (some v.m2)) := CoV.cell H1.out 8 rfl
        have k9 : w3.cell? ⟨p, 9, none⟩ = some (.map (some v.m3)) := CoV.cell H1.out 9 rfl
        have k10 : w3.cell? ⟨p, 10, none⟩ = some (.int .u64 s.under) := CoV.cell H1.out 10 rfl
        have k11 : w3.cell? ⟨p, 11, none⟩ = some (.int .u64 s.durable) := CoV.cell H1.out 11 rfl
        have k12 : w3.cell? ⟨p, 12, none⟩ = some (.bool s.stored) := CoV.cell H1.out 12 rfl
        have k14 : w3.cell? ⟨p, 14, none⟩ = some (.int .i64 s.ticks) := CoV.cell H1.out 14 rfl
        have b0 : w3.cell? ⟨bm, 0, none⟩ = some (.int .i64 kd) := H1.out.at1.cellOf 0 rfl
        have b1 : w3.cell? ⟨bm, 1, none⟩ = some (.int .u64 ep) := H1.out.at1.cellOf 1 rfl
        have b2 : w3.cell? ⟨bm, 2, none⟩ = some (.int .u64 n) := H1.out.at1.cellOf 2 rfl
        have b3 : w3.cell? ⟨bm, 3, none⟩ = some (.int .i64 tk) := H1.out.at1.cellOf 3 rfl
        have l1 : ∀ q, (Instr.lookup 48 (.map (some v.m1)) (.int .i64 tk) false).run Try.prog (w3.drewN q) = .ok (.bool (s.ready tk)) (w3.drewN q) := fun q => CoV.look1 (H1.out.drewN q) tk
        have c1 := con1.out _ H1.out
        have c2 := con2.out _ H1.out
        try (rw [es] at k12)
        go_wp2_with fail
        go_quiet (first | (go_at_call 23; first | exact c1 _ | exact c2 _))
        replace H1 := Lib.hid (H1.out.drewN nq)
        clear k0 k1 k4 k5 k7 k8 k9 k10 k11 k12 k14 b0 b1 b2 b3 l1 c1 c2
        generalize World.drewN w3 nq = w4 at *
        have k0 : w4.cell? ⟨p, 0, none⟩ = some (v.vt) := CoV.cell H1.out 0 rfl
        have k1 : w4.cell? ⟨p, 1, none⟩ = some (v.vs) := CoV.cell H1.out 1 rfl
        have k4 : w4.cell? ⟨p, 4, none⟩ = some (.int .u64 s.epoch) := CoV.cell H1.out 4 rfl
        have k5 : w4.cell? ⟨p, 5, none⟩ = some (.int .u64 s.from_) := CoV.cell H1.out 5 rfl
        have k7 : w4.cell? ⟨p, 7, none⟩ = some (.map (some v.m1)) := CoV.cell H1.out 7 rfl
        have k8 : w4.cell? ⟨p, 8, none⟩ = some (.map (some v.m2)) := CoV.cell H1.out 8 rfl
        have k9 : w4.cell? ⟨p, 9, none⟩ = some (.map (some v.m3)) := CoV.cell H1.out 9 rfl
        have k10 : w4.cell? ⟨p, 10, none⟩ = some (.int .u64 s.under) := CoV.cell H1.out 10 rfl
        have k11 : w4.cell? ⟨p, 11, none⟩ = some (.int .u64 s.durable) := CoV.cell H1.out 11 rfl
        have k12 : w4.cell? ⟨p, 12, none⟩ = some (.bool s.stored) := CoV.cell H1.out 12 rfl
        have k14 : w4.cell? ⟨p, 14, none⟩ = some (.int .i64 s.ticks) := CoV.cell H1.out 14 rfl
        have b0 : w4.cell? ⟨bm, 0, none⟩ = some (.int .i64 kd) := H1.out.at1.cellOf 0 rfl
        have b1 : w4.cell? ⟨bm, 1, none⟩ = some (.int .u64 ep) := H1.out.at1.cellOf 1 rfl
        have b2 : w4.cell? ⟨bm, 2, none⟩ = some (.int .u64 n) := H1.out.at1.cellOf 2 rfl
        have b3 : w4.cell? ⟨bm, 3, none⟩ = some (.int .i64 tk) := H1.out.at1.cellOf 3 rfl
        have l1 : ∀ q, (Instr.lookup 48 (.map (some v.m1)) (.int .i64 tk) false).run Try.prog (w4.drewN q) = .ok (.bool (s.ready tk)) (w4.drewN q) := fun q => CoV.look1 (H1.out.drewN q) tk
        have c1 := con1.out _ H1.out
        have c2 := con2.out _ H1.out
        try (rw [es] at k12)
        go_wp2_with fail
        go_quiet (first | (go_at_call 23; first | exact c1 _ | exact c2 _))
        replace H1 := Lib.hid (H1.out.drewN nq)
        clear k0 k1 k4 k5 k7 k8 k9 k10 k11 k12 k14 b0 b1 b2 b3 l1 c1 c2
        generalize World.drewN w4 nq = w5 at *
        have k0 : w5.cell? ⟨p, 0, none⟩ = some (v.vt) := CoV.cell H1.out 0 rfl
        have k1 : w5.cell? ⟨p, 1, none⟩ = some (v.vs) := CoV.cell H1.out 1 rfl
        have k4 : w5.cell? ⟨p, 4, none⟩ = some (.int .u64 s.epoch) := CoV.cell H1.out 4 rfl
        have k5 : w5.cell? ⟨p, 5, none⟩ = some (.int .u64 s.from_) := CoV.cell H1.out 5 rfl
        have k7 : w5.cell? ⟨p, 7, none⟩ = some (.map (some v.m1)) := CoV.cell H1.out 7 rfl
        have k8 : w5.cell? ⟨p, 8, none⟩ = some (.map (some v.m2)) := CoV.cell H1.out 8 rfl
        have k9 : w5.cell? ⟨p, 9, none⟩ = some (.map (some v.m3)) := CoV.cell H1.out 9 rfl
        have k10 : w5.cell? ⟨p, 10, none⟩ = some (.int .u64 s.under) := CoV.cell H1.out 10 rfl
        have k11 : w5.cell? ⟨p, 11, none⟩ = some (.int .u64 s.durable) := CoV.cell H1.out 11 rfl
        have k12 : w5.cell? ⟨p, 12, none⟩ = some (.bool s.stored) := CoV.cell H1.out 12 rfl
        have k14 : w5.cell? ⟨p, 14, none⟩ = some (.int .i64 s.ticks) := CoV.cell H1.out 14 rfl
        have b0 : w5.cell? ⟨bm, 0, none⟩ = some (.int .i64 kd) := H1.out.at1.cellOf 0 rfl
        have b1 : w5.cell? ⟨bm, 1, none⟩ = some (.int .u64 ep) := H1.out.at1.cellOf 1 rfl
        have b2 : w5.cell? ⟨bm, 2, none⟩ = some (.int .u64 n) := H1.out.at1.cellOf 2 rfl
        have b3 : w5.cell? ⟨bm, 3, none⟩ = some (.int .i64 tk) := H1.out.at1.cellOf 3 rfl
        have l1 : ∀ q, (Instr.lookup 48 (.map (some v.m1)) (.int .i64 tk) false).run Try.prog (w5.drewN q) = .ok (.bool (s.ready tk)) (w5.drewN q) := fun q => CoV.look1 (H1.out.drewN q) tk
        have c1 := con1.out _ H1.out
        have c2 := con2.out _ H1.out
        go_wp2_with fail
        go_ret2
        rw [htk.out]
        exact ⟨rfl, H1.out.at1.tail⟩
      have eu' : (s.under != 0) = true := by rw [bne_iff_ne]; exact eu
      by_cases en : n = s.under
      · have en' : (n == s.under) = true := by rw [beq_iff_eq]; exact en
        cases es : s.stored with
        | true =>
          rw [es] at k12
          have htk : Hid (s.take (kd, ep, n, tk) = (s, 0)) := by show _ = _; rw [htk0.out]; rw [if_neg (fun h => e6 h.1), if_neg (by rw [es]; simp), if_neg (by omega)]
          clear htk0 e6 e2 eu en
          go_wp2_with fail
          go_quiet (first | (go_at_call 23; first | exact c1 _ | exact c2 _))
          replace H1 := Lib.hid (H1.out.drewN nq)
          clear k0 k1 k4 k5 k7 k8 k9 k10 k11 k12 k14 b0 b1 b2 b3 l1 c1 c2
          generalize World.drewN w2 nq = w3 at *
          have k0 : w3.cell? ⟨p, 0, none⟩ = some (v.vt) := CoV.cell H1.out 0 rfl
          have k1 : w3.cell? ⟨p, 1, none⟩ = some (v.vs) := CoV.cell H1.out 1 rfl
          have k4 : w3.cell? ⟨p, 4, none⟩ = some (.int .u64 s.epoch) := CoV.cell H1.out 4 rfl
          have k5 : w3.cell? ⟨p, 5, none⟩ = some (.int .u64 s.from_) := CoV.cell H1.out 5 rfl
          have k7 : w3.cell? ⟨p, 7, none⟩ = some (.map (some v.m1)) := CoV.cell H1.out 7 rfl
          have k8 : w3.cell? ⟨p, 8, none⟩ = some (.map (some v.m2)) := CoV.cell H1.out 8 rfl
          have k9 : w3.cell? ⟨p, 9, none⟩ = some (.map (some v.m3)) := CoV.cell H1.out 9 rfl
          have k10 : w3.cell? ⟨p, 10, none⟩ = some (.int .u64 s.under) := CoV.cell H1.out 10 rfl
          have k11 : w3.cell? ⟨p, 11, none⟩ = some (.int .u64 s.durable) := CoV.cell H1.out 11 rfl
          have k12 : w3.cell? ⟨p, 12, none⟩ = some (.bool s.stored) := CoV.cell H1.out 12 rfl
          have k14 : w3.cell? ⟨p, 14, none⟩ = some (.int .i64 s.ticks) := CoV.cell H1.out 14 rfl
          have b0 : w3.cell? ⟨bm, 0, none⟩ = some (.int .i64 kd) := H1.out.at1.cellOf 0 rfl
          have b1 : w3.cell? ⟨bm, 1, none⟩ = some (.int .u64 ep) := H1.out.at1.cellOf 1 rfl
          have b2 : w3.cell? ⟨bm, 2, none⟩ = some (.int .u64 n) := H1.out.at1.cellOf 2 rfl
          have b3 : w3.cell? ⟨bm, 3, none⟩ = some (.int .i64 tk) := H1.out.at1.cellOf 3 rfl
          have l1 : ∀ q, (Instr.lookup 48 (.map (some v.m1)) (.int .i64 tk) false).run Try.prog (w3.drewN q) = .ok (.bool (s.ready tk)) (w3.drewN q) := fun q => CoV.look1 (H1.out.drewN q) tk
          have c1 := con1.out _ H1.out
          have c2 := con2.out _ H1.out
          try (rw [es] at k12)
          go_wp2_with fail
          go_quiet (first | (go_at_call 23; first | exact c1 _ | exact c2 _))
          replace H1 := Lib.hid (H1.out.drewN nq)
          clear k0 k1 k4 k5 k7 k8 k9 k10 k11 k12 k14 b0 b1 b2 b3 l1 c1 c2
          generalize World.drewN w3 nq = w4 at *
          have k0 : w4.cell? ⟨p, 0, none⟩ = some (v.vt) := CoV.cell H1.out 0 rfl
          have k1 : w4.cell? ⟨p, 1, none⟩ = some (v.vs) := CoV.cell H1.out 1 rfl
          have k4 : w4.cell? ⟨p, 4, none⟩ = some (.int .u64 s.epoch) := CoV.cell H1.out 4 rfl
          have k5 : w4.cell? ⟨p, 5, none⟩ = some (.int .u64 s.from_) := CoV.cell H1.out 5 rfl
          have k7 : w4.cell? ⟨p, 7, none⟩ = some (.map (some v.m1)) := CoV.cell H1.out 7 rfl
          have k8 : w4.cell? ⟨p, 8, none⟩ = some (.map (some v.m2)) := CoV.cell H1.out 8 rfl
          have k9 : w4.cell? ⟨p, 9, none⟩ = some (.map (some v.m3)) := CoV.cell H1.out 9 rfl
          have k10 : w4.cell? ⟨p, 10, none⟩ = some (.int .u64 s.under) := CoV.cell H1.out 10 rfl
          have k11 : w4.cell? ⟨p, 11, none⟩ = some (.int .u64 s.durable) := CoV.cell H1.out 11 rfl
          have k12 : w4.cell? ⟨p, 12, none⟩ = some (.bool s.stored) := CoV.cell H1.out 12 rfl
          have k14 : w4.cell? ⟨p, 14, none⟩ = some (.int .i64 s.ticks) := CoV.cell H1.out 14 rfl
          have b0 : w4.cell? ⟨bm, 0, none⟩ = some (.int .i64 kd) := H1.out.at1.cellOf 0 rfl
          have b1 : w4.cell? ⟨bm, 1, none⟩ = some (.int .u64 ep) := H1.out.at1.cellOf 1 rfl
          have b2 : w4.cell? ⟨bm, 2, none⟩ = some (.int .u64 n) := H1.out.at1.cellOf 2 rfl
          have b3 : w4.cell? ⟨bm, 3, none⟩ = some (.int .i64 tk) := H1.out.at1.cellOf 3 rfl
          have l1 : ∀ q, (Instr.lookup 48 (.map (some v.m1)) (.int .i64 tk) false).run Try.prog (w4.drewN q) = .ok (.bool (s.ready tk)) (w4.drewN q) := fun q => CoV.look1 (H1.out.drewN q) tk
          have c1 := con1.out _ H1.out
          have c2 := con2.out _ H1.out
          try (rw [es] at k12)
          go_wp2_with fail
          go_quiet (first | (go_at_call 23; first | exact c1 _ | exact c2 _))
          replace H1 := Lib.hid (H1.out.drewN nq)
          clear k0 k1 k4 k5 k7 k8 k9 k10 k11 k12 k14 b0 b1 b2 b3 l1 c1 c2
          generalize World.drewN w4 nq = w5 at *
          have k0 : w5.cell? ⟨p, 0, none⟩ = some (v.vt) := CoV.cell H1.out 0 rfl
          have k1 : w5.cell? ⟨p, 1, none⟩ = some (v.vs) := CoV.cell H1.out 1 rfl
          have k4 : w5.cell? ⟨p, 4, none⟩ = some (.int .u64 s.epoch) := CoV.cell H1.out 4 rfl
          have k5 : w5.cell? ⟨p, 5, none⟩ = some (.int .u64 s.from_) := CoV.cell H1.out 5 rfl
          have k7 : w5.cell? ⟨p, 7, none⟩ = some (.map (some v.m1)) := CoV.cell H1.out 7 rfl
          have k8 : w5.cell? ⟨p, 8, none⟩ = some (.map (some v.m2)) := CoV.cell H1.out 8 rfl
          have k9 : w5.cell? ⟨p, 9, none⟩ = some (.map (some v.m3)) := CoV.cell H1.out 9 rfl
          have k10 : w5.cell? ⟨p, 10, none⟩ = some (.int .u64 s.under) := CoV.cell H1.out 10 rfl
          have k11 : w5.cell? ⟨p, 11, none⟩ = some (.int .u64 s.durable) := CoV.cell H1.out 11 rfl
          have k12 : w5.cell? ⟨p, 12, none⟩ = some (.bool s.stored) := CoV.cell H1.out 12 rfl
          have k14 : w5.cell? ⟨p, 14, none⟩ = some (.int .i64 s.ticks) := CoV.cell H1.out 14 rfl
          have b0 : w5.cell? ⟨bm, 0, none⟩ = some (.int .i64 kd) := H1.out.at1.cellOf 0 rfl
          have b1 : w5.cell? ⟨bm, 1, none⟩ = some (.int .u64 ep) := H1.out.at1.cellOf 1 rfl
          have b2 : w5.cell? ⟨bm, 2, none⟩ = some (.int .u64 n) := H1.out.at1.cellOf 2 rfl
          have b3 : w5.cell? ⟨bm, 3, none⟩ = some (.int .i64 tk) := H1.out.at1.cellOf 3 rfl
          have l1 : ∀ q, (Instr.lookup 48 (.map (some v.m1)) (.int .i64 tk) false).run Try.prog (w5.drewN q) = .ok (.bool (s.ready tk)) (w5.drewN q) := fun q => CoV.look1 (H1.out.drewN q) tk
          have c1 := con1.out _ H1.out
          have c2 := con2.out _ H1.out
          go_wp2_with fail
          go_ret2
          rw [htk.out]
          exact ⟨rfl, H1.out.at1.tail⟩
        | false =>
          have htk : Hid (s.take (kd, ep, n, tk) = s.ack tk) := by show _ = _; rw [htk0.out, if_neg (fun h => e6 h.1), if_pos ⟨e2, eu, en, es⟩]
          rw [es] at k12
          clear htk0 e6 e2 eu en
          go_wp2_with fail
          go_quiet (first | (go_at_call 23; first | exact c1 _ | exact c2 _))
          replace H1 := Lib.hid (H1.out.drewN nq)
          clear k0 k1 k4 k5 k7 k8 k9 k10 k11 k12 k14 b0 b1 b2 b3 l1 c1 c2
          generalize World.drewN w2 nq = w3 at *
          have k0 : w3.cell? ⟨p, 0, none⟩ = some (v.vt) := CoV.cell H1.out 0 rfl
          have k1 : w3.cell? ⟨p, 1, none⟩ = some (v.vs) := CoV.cell H1.out 1 rfl
          have k4 : w3.cell? ⟨p, 4, none⟩ = some (.int .u64 s.epoch) := CoV.cell H1.out 4 rfl
          have k5 : w3.cell? ⟨p, 5, none⟩ = some (.int .u64 s.from_) := CoV.cell H1.out 5 rfl
          have k7 : w3.cell? ⟨p, 7, none⟩ = some (.map (some v.m1)) := CoV.cell H1.out 7 rfl
          have k8 : w3.cell? ⟨p, 8, none⟩ = some (.map (some v.m2)) := CoV.cell H1.out 8 rfl
          have k9 : w3.cell? ⟨p, 9, none⟩ = some (.map (some v.m3)) := CoV.cell H1.out 9 rfl
          have k10 : w3.cell? ⟨p, 10, none⟩ = some (.int .u64 s.under) := CoV.cell H1.out 10 rfl
          have k11 : w3.cell? ⟨p, 11, none⟩ = some (.int .u64 s.durable) := CoV.cell H1.out 11 rfl
          have k12 : w3.cell? ⟨p, 12, none⟩ = some (.bool s.stored) := CoV.cell H1.out 12 rfl
          have k14 : w3.cell? ⟨p, 14, none⟩ = some (.int .i64 s.ticks) := CoV.cell H1.out 14 rfl
          have b0 : w3.cell? ⟨bm, 0, none⟩ = some (.int .i64 kd) := H1.out.at1.cellOf 0 rfl
          have b1 : w3.cell? ⟨bm, 1, none⟩ = some (.int .u64 ep) := H1.out.at1.cellOf 1 rfl
          have b2 : w3.cell? ⟨bm, 2, none⟩ = some (.int .u64 n) := H1.out.at1.cellOf 2 rfl
          have b3 : w3.cell? ⟨bm, 3, none⟩ = some (.int .i64 tk) := H1.out.at1.cellOf 3 rfl
          have l1 : ∀ q, (Instr.lookup 48 (.map (some v.m1)) (.int .i64 tk) false).run Try.prog (w3.drewN q) = .ok (.bool (s.ready tk)) (w3.drewN q) := fun q => CoV.look1 (H1.out.drewN q) tk
          have c1 := con1.out _ H1.out
          have c2 := con2.out _ H1.out
          rw [es] at k12
          go_wp2_with fail
          go_quiet (first | (go_at_call 23; first | exact c1 _ | exact c2 _))
          replace H1 := Lib.hid (H1.out.drewN nq)
          clear k0 k1 k4 k5 k7 k8 k9 k10 k11 k12 k14 b0 b1 b2 b3 l1 c1 c2
          generalize World.drewN w3 nq = w4 at *
          have k0 : w4.cell? ⟨p, 0, none⟩ = some (v.vt) := CoV.cell H1.out 0 rfl
          have k1 : w4.cell? ⟨p, 1, none⟩ = some (v.vs) := CoV.cell H1.out 1 rfl
          have k4 : w4.cell? ⟨p, 4, none⟩ = some (.int .u64 s.epoch) := CoV.cell H1.out 4 rfl
          have k5 : w4.cell? ⟨p, 5, none⟩ = some (.int .u64 s.from_) := CoV.cell H1.out 5 rfl
          have k7 : w4.cell? ⟨p, 7, none⟩ = some (.map (some v.m1)) := CoV.cell H1.out 7 rfl
          have k8 : w4.cell? ⟨p, 8, none⟩ = some (.map (some v.m2)) := CoV.cell H1.out 8 rfl
          have k9 : w4.cell? ⟨p, 9, none⟩ = some (.map (some v.m3)) := CoV.cell H1.out 9 rfl
          have k10 : w4.cell? ⟨p, 10, none⟩ = some (.int .u64 s.under) := CoV.cell H1.out 10 rfl
          have k11 : w4.cell? ⟨p, 11, none⟩ = some (.int .u64 s.durable) := CoV.cell H1.out 11 rfl
          have k12 : w4.cell? ⟨p, 12, none⟩ = some (.bool s.stored) := CoV.cell H1.out 12 rfl
          have k14 : w4.cell? ⟨p, 14, none⟩ = some (.int .i64 s.ticks) := CoV.cell H1.out 14 rfl
          have b0 : w4.cell? ⟨bm, 0, none⟩ = some (.int .i64 kd) := H1.out.at1.cellOf 0 rfl
          have b1 : w4.cell? ⟨bm, 1, none⟩ = some (.int .u64 ep) := H1.out.at1.cellOf 1 rfl
          have b2 : w4.cell? ⟨bm, 2, none⟩ = some (.int .u64 n) := H1.out.at1.cellOf 2 rfl
          have b3 : w4.cell? ⟨bm, 3, none⟩ = some (.int .i64 tk) := H1.out.at1.cellOf 3 rfl
          have l1 : ∀ q, (Instr.lookup 48 (.map (some v.m1)) (.int .i64 tk) false).run Try.prog (w4.drewN q) = .ok (.bool (s.ready tk)) (w4.drewN q) := fun q => CoV.look1 (H1.out.drewN q) tk
          have c1 := con1.out _ H1.out
          have c2 := con2.out _ H1.out
          go_wp2_with fail
          go_still_tail 6, mixed
          change wpList _ _ _ _ _ w4.drew
          have H2 := Lib.hid (CoV.open_ H1.out.drew)
          clear k0 k1 k4 k5 k7 k8 k9 k10 k11 k12 k14 b0 b1 b2 b3 l1 c1 c2 H1 es
          generalize w4.drew = w7 at *
          go_wp2_with (at_mapUpdate; refine wpList_mf_put (enc := Value.bool) (z0 := false) rfl (.tmp 102) (.tmp 104) (.const (.bool true)) 48 rfl 3 4 Try.underlying48 Try.underlying3 rfl H2.out.at4 tk true rfl rfl ?_)
          intro w5 H3
          obtain ⟨s1, hs1⟩ : ∃ s1, s1 = { s with acked := updf s.acked tk true } := ⟨_, rfl⟩
          have H4 := CoV.mk_ (p := p) (v := v) (s := { s with acked := updf s.acked tk true }) H3.at4.at4.at4.at4
          rw [← hs1] at H4
          have hrd : Hid (s.ack tk = if s1.all s1.acked then ({ s1 with stored := true }, s1.under) else (s1, 0)) := by show _ = _; rw [hs1]; rfl
          have hl1 : s1.tasks.length ≤ 1000 := by rw [hs1]; exact hlen
          replace H4 := Lib.hid H4
          clear H2 H3 hs1
          have k8 : w5.cell? ⟨p, 8, none⟩ = some (.map (some v.m2)) := CoV.cell H4.out 8 rfl
          go_wp2_with fail
          refine (all26 p v s1 _ w0 _ H4.out v.m2 s1.acked (fun w' R' h x => CoV.look2 h x) hl1).mono ?_
          cases hal : s1.all s1.acked with
          | true =>
            rintro e w6 ⟨rfl, H5⟩
            clear H4 k8
            have k10 : w6.cell? ⟨p, 10, none⟩ = some (.int .u64 s1.under) := CoV.cell H5 10 rfl
            have k12 : w6.cell? ⟨p, 12, none⟩ = some (.bool s1.stored) := CoV.cell H5 12 rfl
            have f12 := CoV.free H5 12
            have O := Lib.hid (CoV.mk_ (p := p) (v := v) (s := { s1 with stored := true }) ((CoV.open_ H5).setCell (i := 12) (.bool true)))
            go_wp2_with fail
            go_ret2
            rw [htk.out, hrd.out, hal]
            exact ⟨rfl, O.out.at1.tail⟩
          | false =>
            rintro e w6 ⟨rfl, H5⟩
            clear H4 k8
            go_wp2_with fail
            go_ret2
            rw [htk.out, hrd.out, hal]
            exact ⟨rfl, H5.at1.tail⟩
      · have en' : (n == s.under) = false := by rw [beq_eq_false_iff_ne]; exact en
        have htk : Hid (s.take (kd, ep, n, tk) = (s, 0)) := by show _ = _; rw [htk0.out]; rw [if_neg (fun h => e6 h.1), if_neg (fun h => en h.2.2.1), if_neg (by omega)]
        clear htk0 e6 e2 eu en
        go_wp2_with fail
        go_quiet (first | (go_at_call 23; first | exact c1 _ | exact c2 _))
        replace H1 := Lib.hid (H1.out.drewN nq)
        clear k0 k1 k4 k5 k7 k8 k9 k10 k11 k12 k14 b0 b1 b2 b3 l1 c1 c2
        generalize World.drewN w2 nq = w3 at *
        have k0 : w3.cell? ⟨p, 0, none⟩ = some (v.vt) := CoV.cell H1.out 0 rfl
        have k1 : w3.cell? ⟨p, 1, none⟩ = some (v.vs) := CoV.cell H1.out 1 rfl
        have k4 : w3.cell? ⟨p, 4, none⟩ = some (.int .u64 s.epoch) := CoV.cell H1.out 4 rfl
        have k5 : w3.cell? ⟨p, 5, none⟩ = some (.int .u64 s.from_) := CoV.cell H1.out 5 rfl
        have k7 : w3.cell? ⟨p, 7, none⟩ = some (.map (some v.m1)) := CoV.cell H1.out 7 rfl
        have k8 : w3.cell? ⟨p, 8, none⟩ = some (.map (some v.m2)) := CoV.cell H1.out 8 rfl
        have k9 : w3.cell? ⟨p, 9, none⟩ = some (.map (some v.m3)) := CoV.cell H1.out 9 rfl
        have k10 : w3.cell? ⟨p, 10, none⟩ = some (.int .u64 s.under) := CoV.cell H1.out 10 rfl
        have k11 : w3.cell? ⟨p, 11, none⟩ = some (.int .u64 s.durable) := CoV.cell H1.out 11 rfl
        have k12 : w3.cell? ⟨p, 12, none⟩ = some (.bool s.stored) := CoV.cell H1.out 12 rfl
        have k14 : w3.cell? ⟨p, 14, none⟩ = some (.int .i64 s.ticks) := CoV.cell H1.out 14 rfl
        have b0 : w3.cell? ⟨bm, 0, none⟩ = some (.int .i64 kd) := H1.out.at1.cellOf 0 rfl
        have b1 : w3.cell? ⟨bm, 1, none⟩ = some (.int .u64 ep) := H1.out.at1.cellOf 1 rfl
        have b2 : w3.cell? ⟨bm, 2, none⟩ = some (.int .u64 n) := H1.out.at1.cellOf 2 rfl
        have b3 : w3.cell? ⟨bm, 3, none⟩ = some (.int .i64 tk) := H1.out.at1.cellOf 3 rfl
        have l1 : ∀ q, (Instr.lookup 48 (.map (some v.m1)) (.int .i64 tk) false).run Try.prog (w3.drewN q) = .ok (.bool (s.ready tk)) (w3.drewN q) := fun q => CoV.look1 (H1.out.drewN q) tk
        have c1 := con1.out _ H1.out
        have c2 := con2.out _ H1.out
        try (rw [es] at k12)
        go_wp2_with fail
        go_quiet (first | (go_at_call 23; first | exact c1 _ | exact c2 _))
        replace H1 := Lib.hid (H1.out.drewN nq)
        clear k0 k1 k4 k5 k7 k8 k9 k10 k11 k12 k14 b0 b1 b2 b3 l1 c1 c2
        generalize World.drewN w3 nq = w4 at *
        have k0 : w4.cell? ⟨p, 0, none⟩ = some (v.vt) := CoV.cell H1.out 0 rfl
        have k1 : w4.cell? ⟨p, 1, none⟩ = some (v.vs) := CoV.cell H1.out 1 rfl
        have k4 : w4.cell? ⟨p, 4, none⟩ = some (.int .u64 s.epoch) := CoV.cell H1.out 4 rfl
        have k5 : w4.cell? ⟨p, 5, none⟩ = some (.int .u64 s.from_) := CoV.cell H1.out 5 rfl
        have k7 : w4.cell? ⟨p, 7, none⟩ = some (.map (some v.m1)) := CoV.cell H1.out 7 rfl
        have k8 : w4.cell? ⟨p, 8, none⟩ = some (.map (some v.m2)) := CoV.cell H1.out 8 rfl
        have k9 : w4.cell? ⟨p, 9, none⟩ = some (.map (some v.m3)) := CoV.cell H1.out 9 rfl
        have k10 : w4.cell? ⟨p, 10, none⟩ = some (.int .u64 s.under) := CoV.cell H1.out 10 rfl
        have k11 : w4.cell? ⟨p, 11, none⟩ = some (.int .u64 s.durable) := CoV.cell H1.out 11 rfl
        have k12 : w4.cell? ⟨p, 12, none⟩ = some (.bool s.stored) := CoV.cell H1.out 12 rfl
        have k14 : w4.cell? ⟨p, 14, none⟩ = some (.int .i64 s.ticks) := CoV.cell H1.out 14 rfl
        have b0 : w4.cell? ⟨bm, 0, none⟩ = some (.int .i64 kd) := H1.out.at1.cellOf 0 rfl
        have b1 : w4.cell? ⟨bm, 1, none⟩ = some (.int .u64 ep) := H1.out.at1.cellOf 1 rfl
        have b2 : w4.cell? ⟨bm, 2, none⟩ = some (.int .u64 n) := H1.out.at1.cellOf 2 rfl
        have b3 : w4.cell? ⟨bm, 3, none⟩ = some (.int .i64 tk) := H1.out.at1.cellOf 3 rfl
        have l1 : ∀ q, (Instr.lookup 48 (.map (some v.m1)) (.int .i64 tk) false).run Try.prog (w4.drewN q) = .ok (.bool (s.ready tk)) (w4.drewN q) := fun q => CoV.look1 (H1.out.drewN q) tk
        have c1 := con1.out _ H1.out
        have c2 := con2.out _ H1.out
        try (rw [es] at k12)
        go_wp2_with fail
        go_quiet (first | (go_at_call 23; first | exact c1 _ | exact c2 _))
        replace H1 := Lib.hid (H1.out.drewN nq)
        clear k0 k1 k4 k5 k7 k8 k9 k10 k11 k12 k14 b0 b1 b2 b3 l1 c1 c2
        generalize World.drewN w4 nq = w5 at *
        have k0 : w5.cell? ⟨p, 0, none⟩ = some (v.vt) := CoV.cell H1.out 0 rfl
        have k1 : w5.cell? ⟨p, 1, none⟩ = some (v.vs) := CoV.cell H1.out 1 rfl
        have k4 : w5.cell? ⟨p, 4, none⟩ = some (.int .u64 s.epoch) := CoV.cell H1.out 4 rfl
        have k5 : w5.cell? ⟨p, 5, none⟩ = some (.int .u64 s.from_) := CoV.cell H1.out 5 rfl
        have k7 : w5.cell? ⟨p, 7, none⟩ = some (.map (some v.m1)) := CoV.cell H1.out 7 rfl
        have k8 : w5.cell? ⟨p, 8, none⟩ = some (.map (some v.m2)) := CoV.cell H1.out 8 rfl
        have k9 : w5.cell? ⟨p, 9, none⟩ = some (.map (some v.m3)) := CoV.cell H1.out 9 rfl
        have k10 : w5.cell? ⟨p, 10, none⟩ = some (.int .u64 s.under) := CoV.cell H1.out 10 rfl
        have k11 : w5.cell? ⟨p, 11, none⟩ = some (.int .u64 s.durable) := CoV.cell H1.out 11 rfl
        have k12 : w5.cell? ⟨p, 12, none⟩ = some (.bool s.stored) := CoV.cell H1.out 12 rfl
        have k14 : w5.cell? ⟨p, 14, none⟩ = some (.int .i64 s.ticks) := CoV.cell H1.out 14 rfl
        have b0 : w5.cell? ⟨bm, 0, none⟩ = some (.int .i64 kd) := H1.out.at1.cellOf 0 rfl
        have b1 : w5.cell? ⟨bm, 1, none⟩ = some (.int .u64 ep) := H1.out.at1.cellOf 1 rfl
        have b2 : w5.cell? ⟨bm, 2, none⟩ = some (.int .u64 n) := H1.out.at1.cellOf 2 rfl
        have b3 : w5.cell? ⟨bm, 3, none⟩ = some (.int .i64 tk) := H1.out.at1.cellOf 3 rfl
        have l1 : ∀ q, (Instr.lookup 48 (.map (some v.m1)) (.int .i64 tk) false).run Try.prog (w5.drewN q) = .ok (.bool (s.ready tk)) (w5.drewN q) := fun q => CoV.look1 (H1.out.drewN q) tk
        have c1 := con1.out _ H1.out
        have c2 := con2.out _ H1.out
        go_wp2_with fail
        go_ret2
        rw [htk.out]
        exact ⟨rfl, H1.out.at1.tail⟩
    have e2' : (kd == 2) = false := by rw [beq_eq_false_iff_ne]; exact e2
    by_cases e4 : kd = 4
    · have e4' : (kd == 4) = true := by rw [beq_iff_eq]; exact e4
      cases ec : s.sinks.contains tk with
      | false =>
        rw [ec] at c2 con2
        have htk : Hid (s.take (kd, ep, n, tk) = (s, 0)) := by show _ = _; rw [htk0.out]; rw [if_neg (fun h => e6 h.1), if_neg (fun h => e2 h.1), if_neg (by rw [ec]; simp)]
        clear htk0 e6 e2 e4 ec
        go_wp2_with fail
        go_quiet (first | (go_at_call 23; first | exact c1 _ | exact c2 _))
        replace H1 := Lib.hid (H1.out.drewN nq)
        clear k0 k1 k4 k5 k7 k8 k9 k10 k11 k12 k14 b0 b1 b2 b3 l1 c1 c2
        generalize World.drewN w2 nq = w3 at *
        have k0 : w3.cell? ⟨p, 0, none⟩ = some (v.vt) := CoV.cell H1.out 0 rfl
        have k1 : w3.cell? ⟨p, 1, none⟩ = some (v.vs) := CoV.cell H1.out 1 rfl
        have k4 : w3.cell? ⟨p, 4, none⟩ = some (.int .u64 s.epoch) := CoV.cell H1.out 4 rfl
        have k5 : w3.cell? ⟨p, 5, none⟩ = some (.int .u64 s.from_) := CoV.cell H1.out 5 rfl
        have k7 : w3.cell? ⟨p, 7, none⟩ = some (.map (some v.m1)) := CoV.cell H1.out 7 rfl
        have k8 : w3.cell? ⟨p, 8, none⟩ = some (.map (some v.m2)) := CoV.cell H1.out 8 rfl
        have k9 : w3.cell? ⟨p, 9, none⟩ = some (.map (some v.m3)) := CoV.cell H1.out 9 rfl
        have k10 : w3.cell? ⟨p, 10, none⟩ = some (.int .u64 s.under) := CoV.cell H1.out 10 rfl
        have k11 : w3.cell? ⟨p, 11, none⟩ = some (.int .u64 s.durable) := CoV.cell H1.out 11 rfl
        have k12 : w3.cell? ⟨p, 12, none⟩ = some (.bool s.stored) := CoV.cell H1.out 12 rfl
        have k14 : w3.cell? ⟨p, 14, none⟩ = some (.int .i64 s.ticks) := CoV.cell H1.out 14 rfl
        have b0 : w3.cell? ⟨bm, 0, none⟩ = some (.int .i64 kd) := H1.out.at1.cellOf 0 rfl
        have b1 : w3.cell? ⟨bm, 1, none⟩ = some (.int .u64 ep) := H1.out.at1.cellOf 1 rfl
        have b2 : w3.cell? ⟨bm, 2, none⟩ = some (.int .u64 n) := H1.out.at1.cellOf 2 rfl
        have b3 : w3.cell? ⟨bm, 3, none⟩ = some (.int .i64 tk) := H1.out.at1.cellOf 3 rfl
        have l1 : ∀ q, (Instr.lookup 48 (.map (some v.m1)) (.int .i64 tk) false).run Try.prog (w3.drewN q) = .ok (.bool (s.ready tk)) (w3.drewN q) := fun q => CoV.look1 (H1.out.drewN q) tk
        have c1 := con1.out _ H1.out
        have c2 := con2.out _ H1.out
        try (rw [es] at k12)
        go_wp2_with fail
        go_quiet (first | (go_at_call 23; first | exact c1 _ | exact c2 _))
        replace H1 := Lib.hid (H1.out.drewN nq)
        clear k0 k1 k4 k5 k7 k8 k9 k10 k11 k12 k14 b0 b1 b2 b3 l1 c1 c2
        generalize World.drewN w3 nq = w4 at *
        have k0 : w4.cell? ⟨p, 0, none⟩ = some (v.vt) := CoV.cell H1.out 0 rfl
        have k1 : w4.cell? ⟨p, 1, none⟩ = some (v.vs) := CoV.cell H1.out 1 rfl
        have k4 : w4.cell? ⟨p, 4, none⟩ = some (.int .u64 s.epoch) := CoV.cell H1.out 4 rfl
        have k5 : w4.cell? ⟨p, 5, none⟩ = some (.int .u64 s.from_) := CoV.cell H1.out 5 rfl
        have k7 : w4.cell? ⟨p, 7, none⟩ = some (.map (some v.m1)) := CoV.cell H1.out 7 rfl
        have k8 : w4.cell? ⟨p, 8, none⟩ = some (.map (some v.m2)) := CoV.cell H1.out 8 rfl
        have k9 : w4.cell? ⟨p, 9, none⟩ = some (.map (some v.m3)) := CoV.cell H1.out 9 rfl
        have k10 : w4.cell? ⟨p, 10, none⟩ = some (.int .u64 s.under) := CoV.cell H1.out 10 rfl
        have k11 : w4.cell? ⟨p, 11, none⟩ = some (.int .u64 s.durable) := CoV.cell H1.out 11 rfl
        have k12 : w4.cell? ⟨p, 12, none⟩ = some (.bool s.stored) := CoV.cell H1.out 12 rfl
        have k14 : w4.cell? ⟨p, 14, none⟩ = some (.int .i64 s.ticks) := CoV.cell H1.out 14 rfl
        have b0 : w4.cell? ⟨bm, 0, none⟩ = some (.int .i64 kd) := H1.out.at1.cellOf 0 rfl
        have b1 : w4.cell? ⟨bm, 1, none⟩ = some (.int .u64 ep) := H1.out.at1.cellOf 1 rfl
        have b2 : w4.cell? ⟨bm, 2, none⟩ = some (.int .u64 n) := H1.out.at1.cellOf 2 rfl
        have b3 : w4.cell? ⟨bm, 3, none⟩ = some (.int .i64 tk) := H1.out.at1.cellOf 3 rfl
        have l1 : ∀ q, (Instr.lookup 48 (.map (some v.m1)) (.int .i64 tk) false).run Try.prog (w4.drewN q) = .ok (.bool (s.ready tk)) (w4.drewN q) := fun q => CoV.look1 (H1.out.drewN q) tk
        have c1 := con1.out _ H1.out
        have c2 := con2.out _ H1.out
        try (rw [es] at k12)
        go_wp2_with fail
        go_quiet (first | (go_at_call 23; first | exact c1 _ | exact c2 _))
        replace H1 := Lib.hid (H1.out.drewN nq)
        clear k0 k1 k4 k5 k7 k8 k9 k10 k11 k12 k14 b0 b1 b2 b3 l1 c1 c2
        generalize World.drewN w4 nq = w5 at *
        have k0 : w5.cell? ⟨p, 0, none⟩ = some (v.vt) := CoV.cell H1.out 0 rfl
        have k1 : w5.cell? ⟨p, 1, none⟩ = some (v.vs) := CoV.cell H1.out 1 rfl
        have k4 : w5.cell? ⟨p, 4, none⟩ = some (.int .u64 s.epoch) := CoV.cell H1.out 4 rfl
        have k5 : w5.cell? ⟨p, 5, none⟩ = some (.int .u64 s.from_) := CoV.cell H1.out 5 rfl
        have k7 : w5.cell? ⟨p, 7, none⟩ = some (.map (some v.m1)) := CoV.cell H1.out 7 rfl
        have k8 : w5.cell? ⟨p, 8, none⟩ = some (.map (some v.m2)) := CoV.cell H1.out 8 rfl
        have k9 : w5.cell? ⟨p, 9, none⟩ = some (.map (some v.m3)) := CoV.cell H1.out 9 rfl
        have k10 : w5.cell? ⟨p, 10, none⟩ = some (.int .u64 s.under) := CoV.cell H1.out 10 rfl
        have k11 : w5.cell? ⟨p, 11, none⟩ = some (.int .u64 s.durable) := CoV.cell H1.out 11 rfl
        have k12 : w5.cell? ⟨p, 12, none⟩ = some (.bool s.stored) := CoV.cell H1.out 12 rfl
        have k14 : w5.cell? ⟨p, 14, none⟩ = some (.int .i64 s.ticks) := CoV.cell H1.out 14 rfl
        have b0 : w5.cell? ⟨bm, 0, none⟩ = some (.int .i64 kd) := H1.out.at1.cellOf 0 rfl
        have b1 : w5.cell? ⟨bm, 1, none⟩ = some (.int .u64 ep) := H1.out.at1.cellOf 1 rfl
        have b2 : w5.cell? ⟨bm, 2, none⟩ = some (.int .u64 n) := H1.out.at1.cellOf 2 rfl
        have b3 : w5.cell? ⟨bm, 3, none⟩ = some (.int .i64 tk) := H1.out.at1.cellOf 3 rfl
        have l1 : ∀ q, (Instr.lookup 48 (.map (some v.m1)) (.int .i64 tk) false).run Try.prog (w5.drewN q) = .ok (.bool (s.ready tk)) (w5.drewN q) := fun q => CoV.look1 (H1.out.drewN q) tk
        have c1 := con1.out _ H1.out
        have c2 := con2.out _ H1.out
        go_wp2_with fail
        go_ret2
        rw [htk.out]
        exact ⟨rfl, H1.out.at1.tail⟩
      | true =>
        rw [ec] at c2 con2
        by_cases en : n = s.durable
        · have en' : (n == s.durable) = true := by rw [beq_iff_eq]; exact en
          have htk : Hid (s.take (kd, ep, n, tk) = ({ s with done := updf s.done tk n }, 0)) := by show _ = _; rw [htk0.out, if_neg (fun h => e6 h.1), if_neg (fun h => e2 h.1), if_pos ⟨e4, ec, en⟩]
          clear htk0 e6 e2 e4 en ec
          go_wp2_with fail
          go_quiet (first | (go_at_call 23; first | exact c1 _ | exact c2 _))
          replace H1 := Lib.hid (H1.out.drewN nq)
          clear k0 k1 k4 k5 k7 k8 k9 k10 k11 k12 k14 b0 b1 b2 b3 l1 c1 c2
          generalize World.drewN w2 nq = w3 at *
          have k0 : w3.cell? ⟨p, 0, none⟩ = some (v.vt) := CoV.cell H1.out 0 rfl
          have k1 : w3.cell? ⟨p, 1, none⟩ = some (v.vs) := CoV.cell H1.out 1 rfl
          have k4 : w3.cell? ⟨p, 4, none⟩ = some (.int .u64 s.epoch) := CoV.cell H1.out 4 rfl
          have k5 : w3.cell? ⟨p, 5, none⟩ = some (.int .u64 s.from_) := CoV.cell H1.out 5 rfl
          have k7 : w3.cell? ⟨p, 7, none⟩ = some (.map (some v.m1)) := CoV.cell H1.out 7 rfl
          have k8 : w3.cell? ⟨p, 8, none⟩ = some (.map (some v.m2)) := CoV.cell H1.out 8 rfl
          have k9 : w3.cell? ⟨p, 9, none⟩ = some (.map (some v.m3)) := CoV.cell H1.out 9 rfl
          have k10 : w3.cell? ⟨p, 10, none⟩ = some (.int .u64 s.under) := CoV.cell H1.out 10 rfl
          have k11 : w3.cell? ⟨p, 11, none⟩ = some (.int .u64 s.durable) := CoV.cell H1.out 11 rfl
          have k12 : w3.cell? ⟨p, 12, none⟩ = some (.bool s.stored) := CoV.cell H1.out 12 rfl
          have k14 : w3.cell? ⟨p, 14, none⟩ = some (.int .i64 s.ticks) := CoV.cell H1.out 14 rfl
          have b0 : w3.cell? ⟨bm, 0, none⟩ = some (.int .i64 kd) := H1.out.at1.cellOf 0 rfl
          have b1 : w3.cell? ⟨bm, 1, none⟩ = some (.int .u64 ep) := H1.out.at1.cellOf 1 rfl
          have b2 : w3.cell? ⟨bm, 2, none⟩ = some (.int .u64 n) := H1.out.at1.cellOf 2 rfl
          have b3 : w3.cell? ⟨bm, 3, none⟩ = some (.int .i64 tk) := H1.out.at1.cellOf 3 rfl
          have l1 : ∀ q, (Instr.lookup 48 (.map (some v.m1)) (.int .i64 tk) false).run Try.prog (w3.drewN q) = .ok (.bool (s.ready tk)) (w3.drewN q) := fun q => CoV.look1 (H1.out.drewN q) tk
          have c1 := con1.out _ H1.out
          have c2 := con2.out _ H1.out
          go_wp2_with fail
          go_quiet (first | (go_at_call 23; first | exact c1 _ | exact c2 _))
          replace H1 := Lib.hid (H1.out.drewN nq)
          clear k0 k1 k4 k5 k7 k8 k9 k10 k11 k12 k14 b0 b1 b2 b3 l1 c1 c2
          generalize World.drewN w3 nq = w4 at *
          have k0 : w4.cell? ⟨p, 0, none⟩ = some (v.vt) := CoV.cell H1.out 0 rfl
          have k1 : w4.cell? ⟨p, 1, none⟩ = some (v.vs) := CoV.cell H1.out 1 rfl
          have k4 : w4.cell? ⟨p, 4, none⟩ = some (.int .u64 s.epoch) := CoV.cell H1.out 4 rfl
          have k5 : w4.cell? ⟨p, 5, none⟩ = some (.int .u64 s.from_) := CoV.cell H1.out 5 rfl
          have k7 : w4.cell? ⟨p, 7, none⟩ = some (.map (some v.m1)) := CoV.cell H1.out 7 rfl
          have k8 : w4.cell? ⟨p, 8, none⟩ = some (.map (some v.m2)) := CoV.cell H1.out 8 rfl
          have k9 : w4.cell? ⟨p, 9, none⟩ = some (.map (some v.m3)) := CoV.cell H1.out 9 rfl
          have k10 : w4.cell? ⟨p, 10, none⟩ = some (.int .u64 s.under) := CoV.cell H1.out 10 rfl
          have k11 : w4.cell? ⟨p, 11, none⟩ = some (.int .u64 s.durable) := CoV.cell H1.out 11 rfl
          have k12 : w4.cell? ⟨p, 12, none⟩ = some (.bool s.stored) := CoV.cell H1.out 12 rfl
          have k14 : w4.cell? ⟨p, 14, none⟩ = some (.int .i64 s.ticks) := CoV.cell H1.out 14 rfl
          have b0 : w4.cell? ⟨bm, 0, none⟩ = some (.int .i64 kd) := H1.out.at1.cellOf 0 rfl
          have b1 : w4.cell? ⟨bm, 1, none⟩ = some (.int .u64 ep) := H1.out.at1.cellOf 1 rfl
          have b2 : w4.cell? ⟨bm, 2, none⟩ = some (.int .u64 n) := H1.out.at1.cellOf 2 rfl
          have b3 : w4.cell? ⟨bm, 3, none⟩ = some (.int .i64 tk) := H1.out.at1.cellOf 3 rfl
          have l1 : ∀ q, (Instr.lookup 48 (.map (some v.m1)) (.int .i64 tk) false).run Try.prog (w4.drewN q) = .ok (.bool (s.ready tk)) (w4.drewN q) := fun q => CoV.look1 (H1.out.drewN q) tk
          have c1 := con1.out _ H1.out
          have c2 := con2.out _ H1.out
          go_wp2_with fail
          go_quiet (first | (go_at_call 23; first | exact c1 _ | exact c2 _))
          replace H1 := Lib.hid (H1.out.drewN nq)
          clear k0 k1 k4 k5 k7 k8 k9 k10 k11 k12 k14 b0 b1 b2 b3 l1 c1 c2
          generalize World.drewN w4 nq = w8 at *
          have k0 : w8.cell? ⟨p, 0, none⟩ = some (v.vt) := CoV.cell H1.out 0 rfl
          have k1 : w8.cell? ⟨p, 1, none⟩ = some (v.vs) := CoV.cell H1.out 1 rfl
          have k4 : w8.cell? ⟨p, 4, none⟩ = some (.int .u64 s.epoch) := CoV.cell H1.out 4 rfl
          have k5 : w8.cell? ⟨p, 5, none⟩ = some (.int .u64 s.from_) := CoV.cell H1.out 5 rfl
          have k7 : w8.cell? ⟨p, 7, none⟩ = some (.map (some v.m1)) := CoV.cell H1.out 7 rfl
          have k8 : w8.cell? ⟨p, 8, none⟩ = some (.map (some v.m2)) := CoV.cell H1.out 8 rfl
          have k9 : w8.cell? ⟨p, 9, none⟩ = some (.map (some v.m3)) := CoV.cell H1.out 9 rfl
          have k10 : w8.cell? ⟨p, 10, none⟩ = some (.int .u64 s.under) := CoV.cell H1.out 10 rfl
          have k11 : w8.cell? ⟨p, 11, none⟩ = some (.int .u64 s.durable) := CoV.cell H1.out 11 rfl
          have k12 : w8.cell? ⟨p, 12, none⟩ = some (.bool s.stored) := CoV.cell H1.out 12 rfl
          have k14 : w8.cell? ⟨p, 14, none⟩ = some (.int .i64 s.ticks) := CoV.cell H1.out 14 rfl
          have b0 : w8.cell? ⟨bm, 0, none⟩ = some (.int .i64 kd) := H1.out.at1.cellOf 0 rfl
          have b1 : w8.cell? ⟨bm, 1, none⟩ = some (.int .u64 ep) := H1.out.at1.cellOf 1 rfl
          have b2 : w8.cell? ⟨bm, 2, none⟩ = some (.int .u64 n) := H1.out.at1.cellOf 2 rfl
          have b3 : w8.cell? ⟨bm, 3, none⟩ = some (.int .i64 tk) := H1.out.at1.cellOf 3 rfl
          have l1 : ∀ q, (Instr.lookup 48 (.map (some v.m1)) (.int .i64 tk) false).run Try.prog (w8.drewN q) = .ok (.bool (s.ready tk)) (w8.drewN q) := fun q => CoV.look1 (H1.out.drewN q) tk
          have c1 := con1.out _ H1.out
          have c2 := con2.out _ H1.out
          go_wp2_with fail
          go_still_tail 8, mixed
          change wpList _ _ _ _ _ w8.drew
          have H2 := Lib.hid (CoV.open_ H1.out.drew)
          clear k0 k1 k4 k5 k7 k8 k9 k10 k11 k12 k14 b0 b1 b2 b3 l1 c1 c2 H1
          generalize w8.drew = w7 at *
          go_wp2_with (at_mapUpdate; refine wpList_mf_put (enc := Value.int .u64) (z0 := 0) rfl (.tmp 143) (.tmp 145) (.tmp 147) 49 rfl 3 29 Try.underlying49 Try.underlying3 rfl H2.out.at5 tk n rfl rfl ?_)
          intro w5 H3
          have H4 := CoV.mk_ (p := p) (v := v) (s := { s with done := updf s.done tk n }) H3.at5.at5.at5.at5.at5
          go_wp2_with fail
          go_ret2
          rw [htk.out]
          exact ⟨rfl, H4.at1.tail⟩
        · have en' : (n == s.durable) = false := by rw [beq_eq_false_iff_ne]; exact en
          have htk : Hid (s.take (kd, ep, n, tk) = (s, 0)) := by show _ = _; rw [htk0.out]; rw [if_neg (fun h => e6 h.1), if_neg (fun h => e2 h.1), if_neg (fun h => en h.2.2)]
          clear htk0 e6 e2 e4 en ec
          go_wp2_with fail
          go_quiet (first | (go_at_call 23; first | exact c1 _ | exact c2 _))
          replace H1 := Lib.hid (H1.out.drewN nq)
          clear k0 k1 k4 k5 k7 k8 k9 k10 k11 k12 k14 b0 b1 b2 b3 l1 c1 c2
          generalize World.drewN w2 nq = w3 at *
          have k0 : w3.cell? ⟨p, 0, none⟩ = some (v.vt) := CoV.cell H1.out 0 rfl
          have k1 : w3.cell? ⟨p, 1, none⟩ = some (v.vs) := CoV.cell H1.out 1 rfl
          have k4 : w3.cell? ⟨p, 4, none⟩ = some (.int .u64 s.epoch) := CoV.cell H1.out 4 rfl
          have k5 : w3.cell? ⟨p, 5, none⟩ = some (.int .u64 s.from_) := CoV.cell H1.out 5 rfl
          have k7 : w3.cell? ⟨p, 7, none⟩ = some (.map (some v.m1)) := CoV.cell H1.out 7 rfl
          have k8 : w3.cell? ⟨p, 8, none⟩ = some (.map (some v.m2)) := CoV.cell H1.out 8 rfl
          have k9 : w3.cell? ⟨p, 9, none⟩ = some (.map (some v.m3)) := CoV.cell H1.out 9 rfl
          have k10 : w3.cell? ⟨p, 10, none⟩ = some (.int .u64 s.under) := CoV.cell H1.out 10 rfl
          have k11 : w3.cell? ⟨p, 11, none⟩ = some (.int .u64 s.durable) := CoV.cell H1.out 11 rfl
          have k12 : w3.cell? ⟨p, 12, none⟩ = some (.bool s.stored) := CoV.cell H1.out 12 rfl
          have k14 : w3.cell? ⟨p, 14, none⟩ = some (.int .i64 s.ticks) := CoV.cell H1.out 14 rfl
          have b0 : w3.cell? ⟨bm, 0, none⟩ = some (.int .i64 kd) := H1.out.at1.cellOf 0 rfl
          have b1 : w3.cell? ⟨bm, 1, none⟩ = some (.int .u64 ep) := H1.out.at1.cellOf 1 rfl
          have b2 : w3.cell? ⟨bm, 2, none⟩ = some (.int .u64 n) := H1.out.at1.cellOf 2 rfl
          have b3 : w3.cell? ⟨bm, 3, none⟩ = some (.int .i64 tk) := H1.out.at1.cellOf 3 rfl
          have l1 : ∀ q, (Instr.lookup 48 (.map (some v.m1)) (.int .i64 tk) false).run Try.prog (w3.drewN q) = .ok (.bool (s.ready tk)) (w3.drewN q) := fun q => CoV.look1 (H1.out.drewN q) tk
          have c1 := con1.out _ H1.out
          have c2 := con2.out _ H1.out
          try (rw [es] at k12)
          go_wp2_with fail
          go_quiet (first | (go_at_call 23; first | exact c1 _ | exact c2 _))
          replace H1 := Lib.hid (H1.out.drewN nq)
          clear k0 k1 k4 k5 k7 k8 k9 k10 k11 k12 k14 b0 b1 b2 b3 l1 c1 c2
          generalize World.drewN w3 nq = w4 at *
          have k0 : w4.cell? ⟨p, 0, none⟩ = some (v.vt) := CoV.cell H1.out 0 rfl
          have k1 : w4.cell? ⟨p, 1, none⟩ = some (v.vs) := CoV.cell H1.out 1 rfl
          have k4 : w4.cell? ⟨p, 4, none⟩ = some (.int .u64 s.epoch) := CoV.cell H1.out 4 rfl
          have k5 : w4.cell? ⟨p, 5, none⟩ = some (.int .u64 s.from_) := CoV.cell H1.out 5 rfl
          have k7 : w4.cell? ⟨p, 7, none⟩ = some (.map (some v.m1)) := CoV.cell H1.out 7 rfl
          have k8 : w4.cell? ⟨p, 8, none⟩ = some (.map (some v.m2)) := CoV.cell H1.out 8 rfl
          have k9 : w4.cell? ⟨p, 9, none⟩ = some (.map (some v.m3)) := CoV.cell H1.out 9 rfl
          have k10 : w4.cell? ⟨p, 10, none⟩ = some (.int .u64 s.under) := CoV.cell H1.out 10 rfl
          have k11 : w4.cell? ⟨p, 11, none⟩ = some (.int .u64 s.durable) := CoV.cell H1.out 11 rfl
          have k12 : w4.cell? ⟨p, 12, none⟩ = some (.bool s.stored) := CoV.cell H1.out 12 rfl
          have k14 : w4.cell? ⟨p, 14, none⟩ = some (.int .i64 s.ticks) := CoV.cell H1.out 14 rfl
          have b0 : w4.cell? ⟨bm, 0, none⟩ = some (.int .i64 kd) := H1.out.at1.cellOf 0 rfl
          have b1 : w4.cell? ⟨bm, 1, none⟩ = some (.int .u64 ep) := H1.out.at1.cellOf 1 rfl
          have b2 : w4.cell? ⟨bm, 2, none⟩ = some (.int .u64 n) := H1.out.at1.cellOf 2 rfl
          have b3 : w4.cell? ⟨bm, 3, none⟩ = some (.int .i64 tk) := H1.out.at1.cellOf 3 rfl
          have l1 : ∀ q, (Instr.lookup 48 (.map (some v.m1)) (.int .i64 tk) false).run Try.prog (w4.drewN q) = .ok (.bool (s.ready tk)) (w4.drewN q) := fun q => CoV.look1 (H1.out.drewN q) tk
          have c1 := con1.out _ H1.out
          have c2 := con2.out _ H1.out
          try (rw [es] at k12)
          go_wp2_with fail
          go_quiet (first | (go_at_call 23; first | exact c1 _ | exact c2 _))
          replace H1 := Lib.hid (H1.out.drewN nq)
          clear k0 k1 k4 k5 k7 k8 k9 k10 k11 k12 k14 b0 b1 b2 b3 l1 c1 c2
          generalize World.drewN w4 nq = w5 at *
          have k0 : w5.cell? ⟨p, 0, none⟩ = some (v.vt) := CoV.cell H1.out 0 rfl
          have k1 : w5.cell? ⟨p, 1, none⟩ = some (v.vs) := CoV.cell H1.out 1 rfl
          have k4 : w5.cell? ⟨p, 4, none⟩ = some (.int .u64 s.epoch) := CoV.cell H1.out 4 rfl
          have k5 : w5.cell? ⟨p, 5, none⟩ = some (.int .u64 s.from_) := CoV.cell H1.out 5 rfl
          have k7 : w5.cell? ⟨p, 7, none⟩ = some (.map (some v.m1)) := CoV.cell H1.out 7 rfl
          have k8 : w5.cell? ⟨p, 8, none⟩ = some (.map (some v.m2)) := CoV.cell H1.out 8 rfl
          have k9 : w5.cell? ⟨p, 9, none⟩ = some (.map (some v.m3)) := CoV.cell H1.out 9 rfl
          have k10 : w5.cell? ⟨p, 10, none⟩ = some (.int .u64 s.under) := CoV.cell H1.out 10 rfl
          have k11 : w5.cell? ⟨p, 11, none⟩ = some (.int .u64 s.durable) := CoV.cell H1.out 11 rfl
          have k12 : w5.cell? ⟨p, 12, none⟩ = some (.bool s.stored) := CoV.cell H1.out 12 rfl
          have k14 : w5.cell? ⟨p, 14, none⟩ = some (.int .i64 s.ticks) := CoV.cell H1.out 14 rfl
          have b0 : w5.cell? ⟨bm, 0, none⟩ = some (.int .i64 kd) := H1.out.at1.cellOf 0 rfl
          have b1 : w5.cell? ⟨bm, 1, none⟩ = some (.int .u64 ep) := H1.out.at1.cellOf 1 rfl
          have b2 : w5.cell? ⟨bm, 2, none⟩ = some (.int .u64 n) := H1.out.at1.cellOf 2 rfl
          have b3 : w5.cell? ⟨bm, 3, none⟩ = some (.int .i64 tk) := H1.out.at1.cellOf 3 rfl
          have l1 : ∀ q, (Instr.lookup 48 (.map (some v.m1)) (.int .i64 tk) false).run Try.prog (w5.drewN q) = .ok (.bool (s.ready tk)) (w5.drewN q) := fun q => CoV.look1 (H1.out.drewN q) tk
          have c1 := con1.out _ H1.out
          have c2 := con2.out _ H1.out
          go_wp2_with fail
          go_ret2
          rw [htk.out]
          exact ⟨rfl, H1.out.at1.tail⟩
    have e4' : (kd == 4) = false := by rw [beq_eq_false_iff_ne]; exact e4
    have htk : Hid (s.take (kd, ep, n, tk) = (s, 0)) := by show _ = _; rw [htk0.out]; rw [if_neg (fun h => e6 h.1), if_neg (fun h => e2 h.1), if_neg (fun h => e4 h.1)]
    clear htk0 e6 e2 e4
    go_wp2_with fail
    go_quiet (first | (go_at_call 23; first | exact c1 _ | exact c2 _))
    replace H1 := Lib.hid (H1.out.drewN nq)
    clear k0 k1 k4 k5 k7 k8 k9 k10 k11 k12 k14 b0 b1 b2 b3 l1 c1 c2
    generalize World.drewN w2 nq = w3 at *
    have k0 : w3.cell? ⟨p, 0, none⟩ = some (v.vt) := CoV.cell H1.out 0 rfl
    have k1 : w3.cell? ⟨p, 1, none⟩ = some (v.vs) := CoV.cell H1.out 1 rfl
    have k4 : w3.cell? ⟨p, 4, none⟩ = some (.int .u64 s.epoch) := CoV.cell H1.out 4 rfl
    have k5 : w3.cell? ⟨p, 5, none⟩ = some (.int .u64 s.from_) := CoV.cell H1.out 5 rfl
    have k7 : w3.cell? ⟨p, 7, none⟩ = some (.map (some v.m1)) := CoV.cell H1.out 7 rfl
    have k8 : w3.cell? ⟨p, 8, none⟩ = some (.map (some v.m2)) := CoV.cell H1.out 8 rfl
    have k9 : w3.cell? ⟨p, 9, none⟩ = some (.map (some v.m3)) := CoV.cell H1.out 9 rfl
    have k10 : w3.cell? ⟨p, 10, none⟩ = some (.int .u64 s.under) := CoV.cell H1.out 10 rfl
    have k11 : w3.cell? ⟨p, 11, none⟩ = some (.int .u64 s.durable) := CoV.cell H1.out 11 rfl
    have k12 : w3.cell? ⟨p, 12, none⟩ = some (.bool s.stored) := CoV.cell H1.out 12 rfl
    have k14 : w3.cell? ⟨p, 14, none⟩ = some (.int .i64 s.ticks) := CoV.cell H1.out 14 rfl
    have b0 : w3.cell? ⟨bm, 0, none⟩ = some (.int .i64 kd) := H1.out.at1.cellOf 0 rfl
    have b1 : w3.cell? ⟨bm, 1, none⟩ = some (.int .u64 ep) := H1.out.at1.cellOf 1 rfl
    have b2 : w3.cell? ⟨bm, 2, none⟩ = some (.int .u64 n) := H1.out.at1.cellOf 2 rfl
    have b3 : w3.cell? ⟨bm, 3, none⟩ = some (.int .i64 tk) := H1.out.at1.cellOf 3 rfl
    have l1 : ∀ q, (Instr.lookup 48 (.map (some v.m1)) (.int .i64 tk) false).run Try.prog (w3.drewN q) = .ok (.bool (s.ready tk)) (w3.drewN q) := fun q => CoV.look1 (H1.out.drewN q) tk
    have c1 := con1.out _ H1.out
    have c2 := con2.out _ H1.out
    try (rw [es] at k12)
    go_wp2_with fail
    go_quiet (first | (go_at_call 23; first | exact c1 _ | exact c2 _))
    replace H1 := Lib.hid (H1.out.drewN nq)
    clear k0 k1 k4 k5 k7 k8 k9 k10 k11 k12 k14 b0 b1 b2 b3 l1 c1 c2
    generalize World.drewN w3 nq = w4 at *
    have k0 : w4.cell? ⟨p, 0, none⟩ = some (v.vt) := CoV.cell H1.out 0 rfl
    have k1 : w4.cell? ⟨p, 1, none⟩ = some (v.vs) := CoV.cell H1.out 1 rfl
    have k4 : w4.cell? ⟨p, 4, none⟩ = some (.int .u64 s.epoch) := CoV.cell H1.out 4 rfl
    have k5 : w4.cell? ⟨p, 5, none⟩ = some (.int .u64 s.from_) := CoV.cell H1.out 5 rfl
    have k7 : w4.cell? ⟨p, 7, none⟩ = some (.map (some v.m1)) := CoV.cell H1.out 7 rfl
    have k8 : w4.cell? ⟨p, 8, none⟩ = some (.map (some v.m2)) := CoV.cell H1.out 8 rfl
    have k9 : w4.cell? ⟨p, 9, none⟩ = some (.map (some v.m3)) := CoV.cell H1.out 9 rfl
    have k10 : w4.cell? ⟨p, 10, none⟩ = some (.int .u64 s.under) := CoV.cell H1.out 10 rfl
    have k11 : w4.cell? ⟨p, 11, none⟩ = some (.int .u64 s.durable) := CoV.cell H1.out 11 rfl
    have k12 : w4.cell? ⟨p, 12, none⟩ = some (.bool s.stored) := CoV.cell H1.out 12 rfl
    have k14 : w4.cell? ⟨p, 14, none⟩ = some (.int .i64 s.ticks) := CoV.cell H1.out 14 rfl
    have b0 : w4.cell? ⟨bm, 0, none⟩ = some (.int .i64 kd) := H1.out.at1.cellOf 0 rfl
    have b1 : w4.cell? ⟨bm, 1, none⟩ = some (.int .u64 ep) := H1.out.at1.cellOf 1 rfl
    have b2 : w4.cell? ⟨bm, 2, none⟩ = some (.int .u64 n) := H1.out.at1.cellOf 2 rfl
    have b3 : w4.cell? ⟨bm, 3, none⟩ = some (.int .i64 tk) := H1.out.at1.cellOf 3 rfl
    have l1 : ∀ q, (Instr.lookup 48 (.map (some v.m1)) (.int .i64 tk) false).run Try.prog (w4.drewN q) = .ok (.bool (s.ready tk)) (w4.drewN q) := fun q => CoV.look1 (H1.out.drewN q) tk
    have c1 := con1.out _ H1.out
    have c2 := con2.out _ H1.out
    try (rw [es] at k12)
    go_wp2_with fail
    go_quiet (first | (go_at_call 23; first | exact c1 _ | exact c2 _))
    replace H1 := Lib.hid (H1.out.drewN nq)
    clear k0 k1 k4 k5 k7 k8 k9 k10 k11 k12 k14 b0 b1 b2 b3 l1 c1 c2
    generalize World.drewN w4 nq = w5 at *
    have k0 : w5.cell? ⟨p, 0, none⟩ = some (v.vt) := CoV.cell H1.out 0 rfl
    have k1 : w5.cell? ⟨p, 1, none⟩ = some (v.vs) := CoV.cell H1.out 1 rfl
    have k4 : w5.cell? ⟨p, 4, none⟩ = some (.int .u64 s.epoch) := CoV.cell H1.out 4 rfl
    have k5 : w5.cell? ⟨p, 5, none⟩ = some (.int .u64 s.from_) := CoV.cell H1.out 5 rfl
    have k7 : w5.cell? ⟨p, 7, none⟩ = some (.map (some v.m1)) := CoV.cell H1.out 7 rfl
    have k8 : w5.cell? ⟨p, 8, none⟩ = some (.map (some v.m2)) := CoV.cell H1.out 8 rfl
    have k9 : w5.cell? ⟨p, 9, none⟩ = some (.map (some v.m3)) := CoV.cell H1.out 9 rfl
    have k10 : w5.cell? ⟨p, 10, none⟩ = some (.int .u64 s.under) := CoV.cell H1.out 10 rfl
    have k11 : w5.cell? ⟨p, 11, none⟩ = some (.int .u64 s.durable) := CoV.cell H1.out 11 rfl
    have k12 : w5.cell? ⟨p, 12, none⟩ = some (.bool s.stored) := CoV.cell H1.out 12 rfl
    have k14 : w5.cell? ⟨p, 14, none⟩ = some (.int .i64 s.ticks) := CoV.cell H1.out 14 rfl
    have b0 : w5.cell? ⟨bm, 0, none⟩ = some (.int .i64 kd) := H1.out.at1.cellOf 0 rfl
    have b1 : w5.cell? ⟨bm, 1, none⟩ = some (.int .u64 ep) := H1.out.at1.cellOf 1 rfl
    have b2 : w5.cell? ⟨bm, 2, none⟩ = some (.int .u64 n) := H1.out.at1.cellOf 2 rfl
    have b3 : w5.cell? ⟨bm, 3, none⟩ = some (.int .i64 tk) := H1.out.at1.cellOf 3 rfl
    have l1 : ∀ q, (Instr.lookup 48 (.map (some v.m1)) (.int .i64 tk) false).run Try.prog (w5.drewN q) = .ok (.bool (s.ready tk)) (w5.drewN q) := fun q => CoV.look1 (H1.out.drewN q) tk
    have c1 := con1.out _ H1.out
    have c2 := con2.out _ H1.out
    go_wp2_with fail
    go_ret2
    rw [htk.out]
    exact ⟨rfl, H1.out.at1.tail⟩
end
end Go.Proofs.Ythjinahfhpgpmaa

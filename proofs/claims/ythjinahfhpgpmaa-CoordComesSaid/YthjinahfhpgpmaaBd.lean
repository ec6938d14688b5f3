import Derived.Test.YthjinahfhpgpmaaRd
import Derived.Test.YthjinahfhpgpmaaProg
import Derived.Test.YthjinahfhpgpmaaLs
import Derived.Outline
import Derived.StillTailTactics
import Derived.Deep.DeepCutAuto
import Derived.Deep.CutBlock
import Derived.Deep.LoopGhost
import Derived.Deep.QuietTactic
import Derived.BigQuiet
import Derived.Deep.RegionHeld3
import Derived.Deep.RegionLaw
set_option linter.unusedVariables false
set_option linter.unusedSimpArgs false
namespace Go.Proofs.Ythjinahfhpgpmaa
open Go.RowKit
/-! ### bounds -/
structure Bd (s : Co) (T L : Int) : Prop where
  ticks : 0 ≤ s.ticks ∧ s.ticks ≤ T
  began : 0 ≤ s.began ∧ s.began ≤ T
  since : 0 ≤ s.since ∧ s.since ≤ T
  limit : 0 ≤ s.limit ∧ s.limit ≤ 1048576
  last : 0 ≤ s.last ∧ s.last ≤ L
  tout : 0 ≤ s.timeout ∧ s.timeout ≤ 1048576
theorem Bd.up {s : Co} {T L : Int} (h : Bd s T L) : Bd s.up (T + 1) L :=
  ⟨⟨by show 0 ≤ s.ticks + 1; have := h.ticks; omega, by show s.ticks + 1 ≤ _; have := h.ticks; omega⟩, ⟨h.began.1, by have := h.began; show s.began ≤ _; omega⟩, ⟨h.since.1, by have := h.since; show s.since ≤ _; omega⟩, h.limit, h.last, h.tout⟩
theorem Bd.quit {s : Co} {T L : Int} (h : Bd s T L) : Bd s.quit T L :=
  ⟨h.ticks, h.began, h.since, by show 0 ≤ min (2 * s.limit) 1048576 ∧ min (2 * s.limit) 1048576 ≤ 1048576; have := h.limit; omega, h.last, h.tout⟩
theorem Bd.start {s : Co} {T L : Int} (h : Bd s T L) : Bd s.start T (L + 1) :=
  ⟨h.ticks, h.ticks, h.ticks, h.limit, by show 0 ≤ s.last + 1 ∧ s.last + 1 ≤ L + 1; have := h.last; omega, h.tout⟩
theorem Bd.mono {s : Co} {T L T' L' : Int} (h : Bd s T L) (h1 : T ≤ T') (h2 : L ≤ L') : Bd s T' L' :=
  ⟨⟨h.ticks.1, Int.le_trans h.ticks.2 h1⟩, ⟨h.began.1, Int.le_trans h.began.2 h1⟩, ⟨h.since.1, Int.le_trans h.since.2 h1⟩, h.limit, ⟨h.last.1, Int.le_trans h.last.2 h2⟩, h.tout⟩
/-- What stays. -/
structure Same (s s' : Co) : Prop where
  tasks : s'.tasks = s.tasks
  sinks : s'.sinks = s.sinks
  interval : s'.interval = s.interval
  timeout : s'.timeout = s.timeout
theorem Same.refl (s : Co) : Same s s := ⟨rfl, rfl, rfl, rfl⟩
theorem Same.trans {a b c : Co} (h : Same a b) (g : Same b c) : Same a c := ⟨g.tasks.trans h.tasks, g.sinks.trans h.sinks, g.interval.trans h.interval, g.timeout.trans h.timeout⟩
theorem tick_bd {s : Co} {T L : Int} (h : Bd s T L) : Bd s.tick.1 (T + 1) (L + 1) ∧ Same s s.tick.1 ∧ s.tick.1.epoch = s.epoch ∧ s.tick.1.durable = s.durable := by
  unfold Co.tick
  split
  · exact ⟨h.mono (by omega) (by omega), Same.refl s, rfl, rfl⟩
  split
  · exact ⟨h.mono (by omega) (by omega), Same.refl s, rfl, rfl⟩
  have hm : Bd s.mid (T + 1) L ∧ Same s s.mid ∧ s.mid.epoch = s.epoch ∧ s.mid.durable = s.durable := by
    unfold Co.mid
    split
    · exact ⟨h.up.quit, ⟨rfl, rfl, rfl, rfl⟩, rfl, rfl⟩
    · exact ⟨h.up, ⟨rfl, rfl, rfl, rfl⟩, rfl, rfl⟩
  unfold Co.go
  split
  · exact ⟨hm.1.start, hm.2.1.trans ⟨rfl, rfl, rfl, rfl⟩, hm.2.2.1, hm.2.2.2⟩
  split
  · exact ⟨hm.1.mono (Int.le_refl _) (by omega), hm.2⟩
  · exact ⟨hm.1.mono (Int.le_refl _) (by omega), hm.2⟩
theorem take_bd {s : Co} {T L : Int} (h : Bd s T L) (m : Ctl) : Bd (s.take m).1 T L ∧ Same s (s.take m).1 ∧ (s.take m).1.epoch = s.epoch ∧ (s.take m).1.durable = s.durable ∧ (s.take m).1.last = s.last ∧ (s.take m).1.under = s.under := by
  unfold Co.take
  split
  · exact ⟨h, Same.refl s, rfl, rfl, rfl, rfl⟩
  split
  · unfold Co.readied
    show Bd (if _ then _ else _ : Co) T L ∧ _
    split
    · exact ⟨⟨h.ticks, h.began, h.ticks, h.limit, h.last, h.tout⟩, ⟨rfl, rfl, rfl, rfl⟩, rfl, rfl, rfl, rfl⟩
    · exact ⟨⟨h.ticks, h.began, h.since, h.limit, h.last, h.tout⟩, ⟨rfl, rfl, rfl, rfl⟩, rfl, rfl, rfl, rfl⟩
  split
  · unfold Co.ack
    split
    · exact ⟨⟨h.ticks, h.began, h.since, h.limit, h.last, h.tout⟩, ⟨rfl, rfl, rfl, rfl⟩, rfl, rfl, rfl, rfl⟩
    · exact ⟨⟨h.ticks, h.began, h.since, h.limit, h.last, h.tout⟩, ⟨rfl, rfl, rfl, rfl⟩, rfl, rfl, rfl, rfl⟩
  split
  · exact ⟨⟨h.ticks, h.began, h.since, h.limit, h.last, h.tout⟩, ⟨rfl, rfl, rfl, rfl⟩, rfl, rfl, rfl, rfl⟩
  · exact ⟨h, Same.refl s, rfl, rfl, rfl, rfl⟩
theorem store_bd {s : Co} {T L : Int} (h : Bd s T L) (n : Int) (ok : Bool) : Bd (s.store n ok).1 T L ∧ Same s (s.store n ok).1 ∧ (s.store n ok).1.epoch = s.epoch ∧ (s.store n ok).1.last = s.last := by
  unfold Co.store
  split
  · exact ⟨h, Same.refl s, rfl, rfl⟩
  split
  · exact ⟨⟨h.ticks, h.began, h.since, h.tout, h.last, h.tout⟩, ⟨rfl, rfl, rfl, rfl⟩, rfl, rfl⟩
  · exact ⟨⟨h.ticks, h.began, h.since, h.limit, h.last, h.tout⟩, ⟨rfl, rfl, rfl, rfl⟩, rfl, rfl⟩
theorem rk_bd (n k : Nat) (i t : Int) (ht : 0 ≤ t ∧ t ≤ 1048576) : Bd (Rk n k i t) 0 0 := ⟨⟨Int.le_refl _, Int.le_refl _⟩, ⟨Int.le_refl _, Int.le_refl _⟩, ⟨Int.le_refl _, Int.le_refl _⟩, ht, ⟨Int.le_refl _, Int.le_refl _⟩, ht⟩
/-- Tick, from the bounds. -/
theorem ticks12 (p : Nat) (v : Vs) (s : Co) (w w0 : World) (R : List HP) (H : Hs w0 w (CoV p v s :: R)) (T L : Int) (hb : Bd s T L) (hT : T ≤ 1000000) (hL : L ≤ 9223372036854775807) (h1 : s.tasks.length ≤ 1000) (h2 : s.sinks.length ≤ 1000) :
    Calls Try.prog 12 #[.pointer (some ⟨p, 0, none⟩)] w fun ee w' => ∃ A c, ee = .returned (.slice A (s.tick).2.length c) ∧
      Hs w0 w' (Ls ECtl 32 (.slice A (s.tick).2.length c) (s.tick).2 :: CoV p v (s.tick).1 :: R) :=
  tick12 p v s w w0 R H h1 h2 ⟨hb.ticks.1, by have := hb.ticks; omega⟩ ⟨hb.began.1, by have := hb.began; omega⟩ ⟨hb.since.1, by have := hb.since; omega⟩ hb.limit ⟨hb.last.1, by have := hb.last; omega⟩
/-- Two lists of messages that are one. -/
theorem ctls18 (v1 v2 : Value) (xs : List Ctl) (w : World) (h1 : RdL ECtl w v1 xs) (h2 : RdL ECtl w v2 xs) :
    Calls Try.prog 18 #[v1, v2] w fun e w' => e = .returned (.bool true) ∧ ∃ n, w' = w.drewN n := by
  obtain ⟨A, c, rfl⟩ := h1.form
  obtain ⟨B, d, rfl⟩ := h2.form
  obtain ⟨_, ha, hb⟩ := h1.caps
  obtain ⟨_, hc, hd⟩ := h2.caps
  generalize hn : xs.length = n at *
  have hr1 := Lib.hid h1
  have hr2 := Lib.hid h2
  replace hn := Lib.hid hn
  clear h1 h2
  go_enter Try.func18, Try.ntmps18
  go_wp2_with fail
  go_loopg [5] n (fun k i wr => ∃ (j q : Nat), k + j = n ∧ i = .int .i64 j ∧ wr = w.drewN q)
  case atStart => exact ⟨0, 0, rfl, rfl, rfl⟩
  case round =>
    obtain ⟨j, q, hk, rfl, rfl⟩ := hrel
    have hjn : j ≤ n := by omega
    replace hk := Lib.hid hk
    rcases Nat.lt_or_ge j n with hj | hj
    · obtain ⟨g, off, rfl⟩ := hr1.out.some_ (by have := hn.out; omega)
      obtain ⟨g2, off2, rfl⟩ := hr2.out.some_ (by have := hn.out; omega)
      obtain ⟨x, hx⟩ : ∃ x, xs[j]? = some x := ⟨_, List.getElem?_eq_getElem (by have := hn.out; omega)⟩
      obtain ⟨s0, s1, s2, s3⟩ := ctl_cells hr1.out hx
      obtain ⟨q0, q1, q2, q3⟩ := ctl_cells hr2.out hx
      have hj0 : (0 : Int) ≤ (j : Int) := by omega
      have hj1 : (j : Int) < (n : Int) := by omega
      replace hx := Lib.hid hx
      obtain ⟨x0, x1, x2, x3⟩ := x
      simp only at s0 s1 s2 s3 q0 q1 q2 q3
      go_wp2_with fail
      go_quiet (fail)
      go_wp2_with fail
      go_roundg (n - (j + 1))
      case measure => have := hk.out; omega
      case rel => exact ⟨j + 1, _, by have := hk.out; omega, by go_num, by first | rfl | exact World.drewN_drewN ..⟩
    · go_wp2_with fail
      go_ret
      exact ⟨rfl, _, rfl⟩
end Go.Proofs.Ythjinahfhpgpmaa

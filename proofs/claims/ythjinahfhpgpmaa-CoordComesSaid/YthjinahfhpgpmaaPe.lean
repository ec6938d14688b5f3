import Derived.Test.YthjinahfhpgpmaaPd
import Derived.Test.YthjinahfhpgpmaaPn
import Derived.StillTailTactics
import Derived.IntWalk
import Derived.Test.YthjinahfhpgpmaaProg
import Derived.Test.YthjinahfhpgpmaaLs
import Derived.Outline
import Derived.StillTailTactics
import Derived.Deep.DeepCutAuto
import Derived.Deep.CutBlock
import Derived.Deep.LoopGhost
import Derived.Deep.QuietTactic
import Derived.BigQuiet
import Derived.Deep.RegionHeld3
import Derived.Deep.RegionLaw
set_option linter.unusedVariables false
set_option linter.unusedSimpArgs false
namespace Go.Proofs.Ythjinahfhpgpmaa
open Go.RowKit
section
variable (p : Nat) (v : Vs) (s : Co) (w w0 : World) (R : List HP) (H : Hs w0 w (CoV p v s :: R))
include H
set_option maxRecDepth 100000 in
set_option maxHeartbeats 8000000 in
theorem tick12 (hlen : s.tasks.length ≤ 1000) (hlen2 : s.sinks.length ≤ 1000) (ht : 0 ≤ s.ticks ∧ s.ticks ≤ 1000000) (hb : 0 ≤ s.began ∧ s.began ≤ 1000000) (hsi : 0 ≤ s.since ∧ s.since ≤ 1000000) (hli : 0 ≤ s.limit ∧ s.limit ≤ 1048576) (hla : 0 ≤ s.last ∧ s.last ≤ 9223372036854775807) :
    Calls Try.prog 12 #[.pointer (some ⟨p, 0, none⟩)] w fun ee w' => ∃ A c, ee = .returned (.slice A (s.tick).2.length c) ∧
      Hs w0 w' (Ls ECtl 32 (.slice A (s.tick).2.length c) (s.tick).2 :: CoV p v (s.tick).1 :: R) := by
  obtain ⟨bt, hbt⟩ : ∃ bt, bt = w.heap.size := ⟨_, rfl⟩
  have H1 := H.alloc (.cells #[.pointer (some ⟨p, 0, none⟩)] 25)
  obtain ⟨w1, hw1⟩ : ∃ w1, w1 = w.alloc (.cells #[.pointer (some ⟨p, 0, none⟩)] 25) := ⟨_, rfl⟩
  rw [← hbt, ← hw1] at H1
  replace H1 := Lib.hid H1.at1
  replace hbt := Lib.hid hbt
  replace hw1 := Lib.hid hw1
  clear H
  have k0 : w1.cell? ⟨bt, 0, none⟩ = some (.pointer (some ⟨p, 0, none⟩)) := H1.out.at1.cellOf 0 rfl
  have k4 : w1.cell? ⟨p, 4, none⟩ = some (.int .u64 s.epoch) := CoV.cell H1.out 4 rfl
  by_cases he : s.epoch = 0
  · have htk : Hid (s.tick = (s, [])) := by show _ = _; unfold Co.tick; rw [if_pos he]
    rw [he] at k4
    clear he
    go_enter Try.func12, Try.ntmps12
    go_upto_region 1 with (fail)
    rw [← hw1.out, ← hbt.out]
    go_wp2_with fail
    go_ret
    rw [htk.out]
    exact ⟨none, 0, rfl, (H1.out.at1.tail).ls_nil ECtl 32⟩
  have heb : (s.epoch == 0) = false := by rw [beq_eq_false_iff_ne]; exact he
  have k7 : w1.cell? ⟨p, 7, none⟩ = some (.map (some v.m1)) := CoV.cell H1.out 7 rfl
  cases hal : s.all s.ready with
  | false =>
    have htk : Hid (s.tick = (s, s.tell 5 s.from_ s.tasks s.ready)) := by show _ = _; unfold Co.tick; rw [if_neg he, if_pos hal]
    have ha : Hid (∀ w', Hs w0 w' (CoV p v s :: Blk bt (.cells #[.pointer (some ⟨p, 0, none⟩)] 25 (0, 0)) :: R) → Calls Try.prog 26 #[.pointer (some ⟨p, 0, none⟩), .map (some v.m1)] w' fun e w'' => e = .returned (.bool false) ∧ Hs w0 w'' (CoV p v s :: Blk bt (.cells #[.pointer (some ⟨p, 0, none⟩)] 25 (0, 0)) :: R)) := fun w' h => by
      have := all26 p v s w' w0 _ h v.m1 s.ready (fun w' R' h x => CoV.look1 h x) hlen
      rwa [hal] at this
    clear he hal
    go_enter Try.func12, Try.ntmps12
    go_upto_region 1 with (fail)
    rw [← hw1.out, ← hbt.out]
    go_wp2_with fail
    go_still_tail 5, mixed
    change wpList _ _ _ _ _ w1.drew
    have H2 := Lib.hid H1.out.drew
    clear k0 k4 k7 H1 hw1 hbt
    generalize w1.drew = w2 at *
    go_wp2_with (go_at_call 26; refine (ha.out _ H2.out).mono ?_)
    rintro e w3 ⟨rfl, H3⟩
    replace H3 := Lib.hid H3
    clear H2
    have k0 : w3.cell? ⟨bt, 0, none⟩ = some (.pointer (some ⟨p, 0, none⟩)) := H3.out.at1.cellOf 0 rfl
    have k0 : w3.cell? ⟨p, 0, none⟩ = some (v.vt) := CoV.cell H3.out 0 rfl
    have k5 : w3.cell? ⟨p, 5, none⟩ = some (.int .u64 s.from_) := CoV.cell H3.out 5 rfl
    go_wp2_with fail
    go_still_tail 10, mixed
    change wpList _ _ _ _ _ w3.drew
    have H4 := Lib.hid H3.out.drew
    clear k0 H3
    generalize w3.drew = w4 at *
    go_wp2_with (go_at_call 24; refine (each_ready p bt v s v.vt s.tasks 5 s.from_ _ w0 _ H4.out (fun w' h => CoV.tasks h) hlen (fun w' h => h.at1.cellOf 0 rfl)).mono ?_)
    rintro e w5 ⟨A, c, rfl, H5⟩
    go_wp2_with fail
    go_ret
    rw [htk.out]
    exact ⟨A, c, rfl, H5.at2.tail⟩
  | true =>
    have htk : Hid (s.tick = s.mid.go s.outs) := by show _ = _; unfold Co.tick; rw [if_neg he, if_neg (by rw [hal]; decide)]
    have ha : Hid (∀ w', Hs w0 w' (CoV p v s :: Blk bt (.cells #[.pointer (some ⟨p, 0, none⟩)] 25 (0, 0)) :: R) → Calls Try.prog 26 #[.pointer (some ⟨p, 0, none⟩), .map (some v.m1)] w' fun e w'' => e = .returned (.bool true) ∧ Hs w0 w'' (CoV p v s :: Blk bt (.cells #[.pointer (some ⟨p, 0, none⟩)] 25 (0, 0)) :: R)) := fun w' h => by
      have := all26 p v s w' w0 _ h v.m1 s.ready (fun w' R' h x => CoV.look1 h x) hlen
      rwa [hal] at this
    clear he hal
    have hwt : IntKind.i64.wrap (s.ticks + 1) = s.ticks + 1 := IntWalk.i64_in _ (by omega)
    go_enter Try.func12, Try.ntmps12
    go_upto_region 1 with (fail)
    rw [← hw1.out, ← hbt.out]
    go_wp2_with fail
    go_still_tail 5, mixed
    change wpList _ _ _ _ _ w1.drew
    have H2 := Lib.hid H1.out.drew
    clear k0 k4 k7 H1 hw1 hbt
    generalize w1.drew = w2 at *
    go_wp2_with (go_at_call 26; refine (ha.out _ H2.out).mono ?_)
    rintro e w3 ⟨rfl, H3⟩
    replace H3 := Lib.hid H3
    clear H2
    have k0 : w3.cell? ⟨bt, 0, none⟩ = some (.pointer (some ⟨p, 0, none⟩)) := H3.out.at1.cellOf 0 rfl
    have k14 : w3.cell? ⟨p, 14, none⟩ = some (.int .i64 s.ticks) := CoV.cell H3.out 14 rfl
    have f14 := CoV.free H3.out 14
    have O := (CoV.open_ H3.out).setCell (i := 14) (.int .i64 (s.ticks + 1))
    obtain ⟨s1, hs1⟩ : ∃ s1, s1 = s.up := ⟨_, rfl⟩
    have H4 := CoV.mk_ (p := p) (v := v) (s := s.up) O
    rw [← hs1] at H4
    have htk1 : Hid (s.tick = (if s1.late then s1.quit else s1).go s.outs) := by show _ = _; rw [htk.out, hs1]; rfl
    have hsd : s.durable = s1.durable ∧ s.sinks = s1.sinks ∧ s.tasks = s1.tasks := by rw [hs1]; exact ⟨rfl, rfl, rfl⟩
    have hou : Hid (s.outs = if s1.durable = 0 then [] else s1.tell 3 s1.durable s1.sinks s1.committed) := by show _ = _; rw [hs1]; rfl
    have hbs : (0 ≤ s1.ticks ∧ s1.ticks ≤ 1000001) ∧ (0 ≤ s1.began ∧ s1.began ≤ 1000000) ∧ (0 ≤ s1.since ∧ s1.since ≤ 1000000) ∧ (0 ≤ s1.limit ∧ s1.limit ≤ 1048576) ∧ (0 ≤ s1.last ∧ s1.last ≤ 9223372036854775807) := by rw [hs1]; exact ⟨⟨by show 0 ≤ s.ticks + 1; omega, by show s.ticks + 1 ≤ 1000001; omega⟩, hb, hsi, hli, hla⟩
    rw [hsd.2.2] at hlen
    rw [hsd.2.1] at hlen2
    replace H4 := Lib.hid H4
    clear O htk hsd hs1 ht hb hsi hli hla ha
    go_upto_region 6 with (fail)
    clear k0 k14 f14 H3 hwt
    generalize World.setCell _ _ _ = w4 at H4 ⊢
    have k0 : w4.cell? ⟨bt, 0, none⟩ = some (.pointer (some ⟨p, 0, none⟩)) := H4.out.at1.cellOf 0 rfl
    have k11 : w4.cell? ⟨p, 11, none⟩ = some (.int .u64 s1.durable) := CoV.cell H4.out 11 rfl
    have k1 : w4.cell? ⟨p, 1, none⟩ = some (v.vs) := CoV.cell H4.out 1 rfl
    have hw1 : IntKind.i64.wrap (s1.ticks - s1.began) = s1.ticks - s1.began := IntWalk.i64_in _ (by omega)
    have hw2 : IntKind.i64.wrap (s1.ticks - s1.since) = s1.ticks - s1.since := IntWalk.i64_in _ (by omega)
    have hw3 : IntKind.i64.wrap (2 * s1.limit) = 2 * s1.limit := IntWalk.i64_in _ (by omega)
    have hw4 : IntKind.u64.wrap (s1.last + 1) = s1.last + 1 := IntWalk.u64_in _ (by omega)
    have hbl := Lib.hid hbs
    clear hbs
    by_cases hd : s1.durable = 0
    · have hdb : (s1.durable != 0) = false := by rw [bne_eq_false_iff_eq]; exact hd
      obtain ⟨out, hout⟩ : ∃ out : List Ctl, out = s.outs := ⟨_, rfl⟩
      have hnil : out = [] := by rw [hout, hou.out, if_pos hd]
      replace hout := Lib.hid hout
      obtain ⟨Ao, co, hz, H5⟩ : ∃ Ao co, Value.slice none 0 0 = Value.slice Ao out.length co ∧ Hid (Hs w0 w4 (Ls ECtl 32 (.slice Ao out.length co) out :: CoV p v s1 :: Blk bt (.cells #[.pointer (some ⟨p, 0, none⟩)] 25 (0, 0)) :: R)) := ⟨none, 0, by rw [hnil]; rfl, by rw [hnil]; exact H4.out.ls_nil ECtl 32⟩
      have hol : Hid (out.length ≤ 1000) := by rw [hnil]; exact Nat.zero_le _
      clear hd hou
      go_upto_region 9 with (fail)
      rw [hz]
      clear hz hnil hdb H4 k11 k1 k0
      generalize hw5 : w4 = w5 at *
      clear hw5
      have q10 : w5.cell? ⟨p, 10, none⟩ = some (.int .u64 s1.under) := CoV.cell H5.out.at1 10 rfl
      have q12 : w5.cell? ⟨p, 12, none⟩ = some (.bool s1.stored) := CoV.cell H5.out.at1 12 rfl
      have q13 : w5.cell? ⟨p, 13, none⟩ = some (.int .i64 s1.limit) := CoV.cell H5.out.at1 13 rfl
      have q14 : w5.cell? ⟨p, 14, none⟩ = some (.int .i64 s1.ticks) := CoV.cell H5.out.at1 14 rfl
      have q15 : w5.cell? ⟨p, 15, none⟩ = some (.int .i64 s1.began) := CoV.cell H5.out.at1 15 rfl
      have k0 : w5.cell? ⟨bt, 0, none⟩ = some (.pointer (some ⟨p, 0, none⟩)) := H5.out.at2.cellOf 0 rfl
      have htk2 := Lib.hid (fun (b : Bool) (h : s1.late = b) => show s.tick = (if b then s1.quit else s1).go s.outs by rw [← h]; exact htk1.out)
      clear htk1
      by_cases hu : s1.under = 0
      · have hlate : s1.late = false := by unfold Co.late; rw [hu]; rfl
        have hgo : Hid (s.tick = s1.go s.outs) := htk2.out false hlate
        have hb10' : (s1.under == 0) = true := by rw [hu]; rfl
        rw [hu] at q10
        clear htk2 hlate hu
        go_quiet (fail)
        have H7 := Lib.hid (H5.out.drewN nq)
        clear q10 q12 q13 q14 q15 k0 H5
        generalize World.drewN w5 nq = w7 at *
        have q10 : w7.cell? ⟨p, 10, none⟩ = some (.int .u64 s1.under) := CoV.cell H7.out.at1 10 rfl
        have q14 : w7.cell? ⟨p, 14, none⟩ = some (.int .i64 s1.ticks) := CoV.cell H7.out.at1 14 rfl
        have q16 : w7.cell? ⟨p, 16, none⟩ = some (.int .i64 s1.since) := CoV.cell H7.out.at1 16 rfl
        have q2 : w7.cell? ⟨p, 2, none⟩ = some (.int .i64 s1.interval) := CoV.cell H7.out.at1 2 rfl
        rw [show s1.under = 0 from by simpa using hb10'] at q10
        have k0 : w7.cell? ⟨bt, 0, none⟩ = some (.pointer (some ⟨p, 0, none⟩)) := H7.out.at2.cellOf 0 rfl
        by_cases hdue : s1.interval ≤ s1.ticks - s1.since
        · go_wp2_with fail
          go_quiet (fail)
          replace H7 := Lib.hid (H7.out.drewN nq)
          clear q10 q14 q16 q2 k0
          generalize World.drewN w7 nq = w9 at *
          have hst : Hid (s.tick = (s1.start, out ++ s1.start.tell 1 s1.start.under s1.tasks nobody)) := by
            show _ = _
            rw [hgo.out]
            unfold Co.go
            rw [if_pos (by unfold Co.due; rw [hb10']; simpa using hdue), ← hout.out]
          clear hdue
          have k0 : w9.cell? ⟨bt, 0, none⟩ = some (.pointer (some ⟨p, 0, none⟩)) := H7.out.at2.cellOf 0 rfl
          have q6 : w9.cell? ⟨p, 6, none⟩ = some (.int .u64 s1.last) := CoV.cell H7.out.at1 6 rfl
          have f6 := CoV.free H7.out.at1 6
          have O := (CoV.open_ H7.out.at1).setCell (i := 6) (.int .u64 (s1.last + 1))
          have O1 := Lib.hid (CoV.mk_ (p := p) (v := v) (s := { s1 with last := s1.last + 1 }) O)
          clear O
          go_upto_region 14 with (fail)
          clear q6 f6 k0 H7
          generalize World.setCell _ _ _ = w8 at O1 ⊢
          obtain ⟨s4, hs4⟩ : ∃ s4, s4 = { s1 with last := s1.last + 1 } := ⟨_, rfl⟩
          rw [← hs4] at O1
          obtain ⟨s3, hs3⟩ : ∃ s3, s3 = s1.start := ⟨_, rfl⟩
          have hs34 : Hid (s3 = { s4 with under := s4.last, began := s4.ticks, since := s4.ticks, acked := nobody }) := by show _ = _; rw [hs3, hs4]; rfl
          have hst4 : Hid (s3.tasks = s1.tasks) := by show _ = _; rw [hs3]; rfl
          have hte : Hid (s3.tasks.length ≤ 1000) := by show _ ≤ _; rw [hst4.out]; exact hlen
          rw [← hs3, ← hst4.out] at hst
          clear hs3 hs4 hst4
          have O2 := Lib.hid O1.out.drew
          have q10 : w8.cell? ⟨p, 10, none⟩ = some (.int .u64 s4.under) := CoV.cell O1.out 10 rfl
          have q15 : w8.cell? ⟨p, 15, none⟩ = some (.int .i64 s4.began) := CoV.cell O1.out 15 rfl
          have q16 : w8.cell? ⟨p, 16, none⟩ = some (.int .i64 s4.since) := CoV.cell O1.out 16 rfl
          have f10 := CoV.free O1.out 10
          have f15 := CoV.free O1.out 15
          have f16 := CoV.free O1.out 16
          clear O1
          refine wp_region_left (S := fun w' : World => w'.cell? ⟨bt, 0, none⟩ = some (.pointer (some ⟨p, 0, none⟩)) ∧ w'.cell? ⟨p, 6, none⟩ = some (.int .u64 s4.last) ∧ w'.cell? ⟨p, 14, none⟩ = some (.int .i64 s4.ticks)) 23 mixed ?_
          have hS : (fun w' : World => w'.cell? ⟨bt, 0, none⟩ = some (.pointer (some ⟨p, 0, none⟩)) ∧ w'.cell? ⟨p, 6, none⟩ = some (.int .u64 s4.last) ∧ w'.cell? ⟨p, 14, none⟩ = some (.int .i64 s4.ticks)) w8.drew := by exact ⟨O2.out.at2.cellOf 0 rfl, CoV.cell O2.out 6 rfl, CoV.cell O2.out 14 rfl⟩
          refine Left.take (i := 0) (v := ?vxa14_0) rfl (by kernel_rfl) (fun _ _ _ h => h) hS (Or.inl ⟨by rfl, fun w hSw => ?hyxa14_0⟩) ?restxa14_0
          case hyxa14_0 => ((try dsimp only at hSw); go_simp; try with_reducible rfl)
          try simp only [Act.put, List.setIfInBounds_toArray, List.set_cons_zero, List.set_cons_succ]
          refine Left.take (i := 1) (v := ?vxa14_1) rfl (by kernel_rfl) (fun _ _ _ h => h) hS (Or.inl ⟨by rfl, fun w hSw => ?hyxa14_1⟩) ?restxa14_1
          case hyxa14_1 => ((try dsimp only at hSw); go_simp; try with_reducible rfl)
          try simp only [Act.put, List.setIfInBounds_toArray, List.set_cons_zero, List.set_cons_succ]
          refine Left.take (i := 2) (v := ?vxa14_2) rfl (by kernel_rfl) (fun _ _ _ h => h) hS (Or.inl ⟨by rfl, fun w hSw => ?hyxa14_2⟩) ?restxa14_2
          case hyxa14_2 => ((try dsimp only at hSw); go_simp; try with_reducible rfl)
          try simp only [Act.put, List.setIfInBounds_toArray, List.set_cons_zero, List.set_cons_succ]
          refine Left.take (i := 3) (v := ?vxa14_3) rfl (by kernel_rfl) (fun _ _ _ h => h) hS (Or.inl ⟨by rfl, fun w hSw => ?hyxa14_3⟩) ?restxa14_3
          case hyxa14_3 => ((try dsimp only at hSw); go_simp; try with_reducible rfl)
          try simp only [Act.put, List.setIfInBounds_toArray, List.set_cons_zero, List.set_cons_succ]
          refine Left.pure (i := 4) (v := ?vxa14_4) rfl (by kernel_rfl) (fun _ _ _ h => h) (Or.inr hS) (Or.inl ⟨by rfl, fun w _ => ?hyxa14_4⟩) ?restxa14_4
          case hyxa14_4 => (go_simp; try with_reducible rfl)
          try simp only [Act.put, List.setIfInBounds_toArray, List.set_cons_zero, List.set_cons_succ]
          refine Left.pure (i := 5) (v := ?vxa14_5) rfl (by kernel_rfl) (fun _ _ _ h => h) (Or.inr hS) (Or.inl ⟨by rfl, fun w _ => ?hyxa14_5⟩) ?restxa14_5
          case hyxa14_5 => (go_simp; try with_reducible rfl)
          try simp only [Act.put, List.setIfInBounds_toArray, List.set_cons_zero, List.set_cons_succ]
          refine Left.take (i := 6) (v := ?vxa14_6) rfl (by kernel_rfl) (fun _ _ _ h => h) hS (Or.inl ⟨by rfl, fun w hSw => ?hyxa14_6⟩) ?restxa14_6
          case hyxa14_6 => ((try dsimp only at hSw); go_simp; try with_reducible rfl)
          try simp only [Act.put, List.setIfInBounds_toArray, List.set_cons_zero, List.set_cons_succ]
          refine Left.take (i := 7) (v := ?vxa14_7) rfl (by kernel_rfl) (fun _ _ _ h => h) hS (Or.inl ⟨by rfl, fun w hSw => ?hyxa14_7⟩) ?restxa14_7
          case hyxa14_7 => ((try dsimp only at hSw); go_simp; try with_reducible rfl)
          try simp only [Act.put, List.setIfInBounds_toArray, List.set_cons_zero, List.set_cons_succ]
          refine Left.pure (i := 8) (v := ?vxa14_8) rfl (by kernel_rfl) (fun _ _ _ h => h) (Or.inr hS) (Or.inl ⟨by rfl, fun w _ => ?hyxa14_8⟩) ?restxa14_8
          case hyxa14_8 => (go_simp; try with_reducible rfl)
          try simp only [Act.put, List.setIfInBounds_toArray, List.set_cons_zero, List.set_cons_succ]
          refine Left.pure (i := 9) (v := ?vxa14_9) rfl (by kernel_rfl) (fun _ _ _ h => h) (Or.inr hS) (Or.inl ⟨by rfl, fun w _ => ?hyxa14_9⟩) ?restxa14_9
          case hyxa14_9 => (go_simp; try with_reducible rfl)
          try simp only [Act.put, List.setIfInBounds_toArray, List.set_cons_zero, List.set_cons_succ]
          refine Left.take (i := 10) (v := ?vxa14_10) rfl (by kernel_rfl) (fun _ _ _ h => h) hS (Or.inl ⟨by rfl, fun w hSw => ?hyxa14_10⟩) ?restxa14_10
          case hyxa14_10 => ((try dsimp only at hSw); go_simp; try with_reducible rfl)
          try simp only [Act.put, List.setIfInBounds_toArray, List.set_cons_zero, List.set_cons_succ]
          refine Left.take (i := 11) (v := ?vxa14_11) rfl (by kernel_rfl) (fun _ _ _ h => h) hS (Or.inl ⟨by rfl, fun w hSw => ?hyxa14_11⟩) ?restxa14_11
          case hyxa14_11 => ((try dsimp only at hSw); go_simp; try with_reducible rfl)
          try simp only [Act.put, List.setIfInBounds_toArray, List.set_cons_zero, List.set_cons_succ]
          refine Left.pure (i := 12) (v := ?vxa14_12) rfl (by kernel_rfl) (fun _ _ _ h => h) (Or.inr hS) (Or.inl ⟨by rfl, fun w _ => ?hyxa14_12⟩) ?restxa14_12
          case hyxa14_12 => (go_simp; try with_reducible rfl)
          try simp only [Act.put, List.setIfInBounds_toArray, List.set_cons_zero, List.set_cons_succ]
          refine Left.pure (i := 13) (v := ?vxa14_13) rfl (by kernel_rfl) (fun _ _ _ h => h) (Or.inr hS) (Or.inl ⟨by rfl, fun w _ => ?hyxa14_13⟩) ?restxa14_13
          case hyxa14_13 => (go_simp; try with_reducible rfl)
          try simp only [Act.put, List.setIfInBounds_toArray, List.set_cons_zero, List.set_cons_succ]
          refine Left.take (i := 14) (v := ?vxa14_14) rfl (by kernel_rfl) (fun _ _ _ h => h) hS (Or.inl ⟨by rfl, fun w hSw => ?hyxa14_14⟩) ?restxa14_14
          case hyxa14_14 => ((try dsimp only at hSw); go_simp; try with_reducible rfl)
          try simp only [Act.put, List.setIfInBounds_toArray, List.set_cons_zero, List.set_cons_succ]
          refine Left.pure (i := 15) (v := ?vxa14_15) rfl (by kernel_rfl) (fun _ _ _ h => h) (Or.inr hS) (Or.inl ⟨by rfl, fun w _ => ?hyxa14_15⟩) ?restxa14_15
          case hyxa14_15 => (go_simp; try with_reducible rfl)
          try simp only [Act.put, List.setIfInBounds_toArray, List.set_cons_zero, List.set_cons_succ]
          refine Left.pure (i := 16) (v := ?vxa14_16) rfl (by kernel_rfl) (fun _ _ _ h => h) (Or.inr hS) (Or.inl ⟨by rfl, fun w _ => ?hyxa14_16⟩) ?restxa14_16
          case hyxa14_16 => (go_simp; try with_reducible rfl)
          try simp only [Act.put, List.setIfInBounds_toArray, List.set_cons_zero, List.set_cons_succ]
          refine Left.run (i := 17) rfl (by kernel_rfl) (fun K hK => ?_)
          have O3 := (CoV.open_ O2.out).setCell (i := 10) (.int .u64 s4.last)
          go_simp
          replace hS : (fun w' : World => w'.cell? ⟨bt, 0, none⟩ = some (.pointer (some ⟨p, 0, none⟩)) ∧ w'.cell? ⟨p, 6, none⟩ = some (.int .u64 s4.last) ∧ w'.cell? ⟨p, 14, none⟩ = some (.int .i64 s4.ticks)) (w8.drew.setCell ⟨p, 10, none⟩ (.int .u64 s4.last)) := by exact ⟨O3.at7.cellOf 0 rfl, O3.cellOf 6 rfl, O3.cellOf 14 rfl⟩
          refine hK.out _ _ (Or.inr hS) ?_
          clear hK K
          try simp only [Act.put, List.setIfInBounds_toArray, List.set_cons_zero, List.set_cons_succ]
          refine Left.pure (i := 18) (v := ?vxa14_18) rfl (by kernel_rfl) (fun _ _ _ h => h) (Or.inr hS) (Or.inl ⟨by rfl, fun w _ => ?hyxa14_18⟩) ?restxa14_18
          case hyxa14_18 => (go_simp; try with_reducible rfl)
          try simp only [Act.put, List.setIfInBounds_toArray, List.set_cons_zero, List.set_cons_succ]
          refine Left.pure (i := 19) (v := ?vxa14_19) rfl (by kernel_rfl) (fun _ _ _ h => h) (Or.inr hS) (Or.inl ⟨by rfl, fun w _ => ?hyxa14_19⟩) ?restxa14_19
          case hyxa14_19 => (go_simp; try with_reducible rfl)
          try simp only [Act.put, List.setIfInBounds_toArray, List.set_cons_zero, List.set_cons_succ]
          refine Left.run (i := 20) rfl (by kernel_rfl) (fun K hK => ?_)
          replace O3 := O3.setCell (i := 15) (.int .i64 s4.ticks)
          go_simp
          replace hS : (fun w' : World => w'.cell? ⟨bt, 0, none⟩ = some (.pointer (some ⟨p, 0, none⟩)) ∧ w'.cell? ⟨p, 6, none⟩ = some (.int .u64 s4.last) ∧ w'.cell? ⟨p, 14, none⟩ = some (.int .i64 s4.ticks)) ((w8.drew.setCell ⟨p, 10, none⟩ (.int .u64 s4.last)).setCell ⟨p, 15, none⟩ (.int .i64 s4.ticks)) := by exact ⟨O3.at7.cellOf 0 rfl, O3.cellOf 6 rfl, O3.cellOf 14 rfl⟩
          refine hK.out _ _ (Or.inr hS) ?_
          clear hK K
          try simp only [Act.put, List.setIfInBounds_toArray, List.set_cons_zero, List.set_cons_succ]
          refine Left.pure (i := 21) (v := ?vxa14_21) rfl (by kernel_rfl) (fun _ _ _ h => h) (Or.inr hS) (Or.inl ⟨by rfl, fun w _ => ?hyxa14_21⟩) ?restxa14_21
          case hyxa14_21 => (go_simp; try with_reducible rfl)
          try simp only [Act.put, List.setIfInBounds_toArray, List.set_cons_zero, List.set_cons_succ]
          refine Left.pure (i := 22) (v := ?vxa14_22) rfl (by kernel_rfl) (fun _ _ _ h => h) (Or.inr hS) (Or.inl ⟨by rfl, fun w _ => ?hyxa14_22⟩) ?restxa14_22
          case hyxa14_22 => (go_simp; try with_reducible rfl)
          try simp only [Act.put, List.setIfInBounds_toArray, List.set_cons_zero, List.set_cons_succ]
          refine Left.run (i := 23) rfl (by kernel_rfl) (fun K hK => ?_)
          go_simp
          refine hK.out _ _ (Or.inl (by kernel_rfl)) ?_
          clear hK K
          try simp only [Act.put, List.setIfInBounds_toArray, List.set_cons_zero, List.set_cons_succ]
          refine Left.done (by kernel_rfl) ?_ _
          replace O3 : Hs w0 (((w8.setCell ⟨p, 10, none⟩ (.int .u64 s4.last)).setCell ⟨p, 15, none⟩ (.int .i64 s4.ticks)).setCell ⟨p, 16, none⟩ (.int .i64 s4.ticks)).drew _ := O3.setCell (i := 16) (.int .i64 s4.ticks)
          clear q10 q15 q16 f10 f15 f16 O2 hS
          generalize World.drew _ = w11 at O3 ⊢
          simp only [coCells, List.setIfInBounds_toArray, List.set_cons_zero, List.set_cons_succ] at O3
          have k0 : w11.cell? ⟨bt, 0, none⟩ = some (.pointer (some ⟨p, 0, none⟩)) := O3.at7.cellOf 0 rfl
          have k8 : w11.cell? ⟨p, 8, none⟩ = some (.map (some v.m2)) := O3.cellOf 8 rfl
          obtain ⟨w12, hr2, O4⟩ := O3.at4.mf_clear (P := Try.prog) 48 3 4 0 Try.underlying48
          have O5 := CoV.mk_ (p := p) (v := v) (s := { s4 with under := s4.last, began := s4.ticks, since := s4.ticks, acked := nobody }) O4.at4.at4.at4.at4
          rw [← hs34.out] at O5
          replace O5 := Lib.hid O5
          clear O3 O4
          go_upto_region 16 with (fail)
          clear k0 k8 hr2
          have O6 := Lib.hid O5.out.drew
          clear O5
          refine wp_region_left (S := fun w' : World => w'.cell? ⟨bt, 0, none⟩ = some (.pointer (some ⟨p, 0, none⟩)) ∧ w'.cell? ⟨p, 0, none⟩ = some v.vt ∧ w'.cell? ⟨p, 10, none⟩ = some (.int .u64 s3.under)) 12 mixed ?_
          have hS : (fun w' : World => w'.cell? ⟨bt, 0, none⟩ = some (.pointer (some ⟨p, 0, none⟩)) ∧ w'.cell? ⟨p, 0, none⟩ = some v.vt ∧ w'.cell? ⟨p, 10, none⟩ = some (.int .u64 s3.under)) w12.drew := by exact ⟨O6.out.at2.cellOf 0 rfl, CoV.cell (O6.out) 0 rfl, CoV.cell (O6.out) 10 rfl⟩
          refine Left.pure (i := 0) (v := ?vxa16_0) rfl (by kernel_rfl) (fun _ _ _ h => h) (Or.inr hS) (Or.inl ⟨by rfl, fun w _ => ?hyxa16_0⟩) ?restxa16_0
          case hyxa16_0 => (go_simp; try with_reducible rfl)
          try simp only [Act.put, List.setIfInBounds_toArray, List.set_cons_zero, List.set_cons_succ]
          refine Left.take (i := 1) (v := ?vxa16_1) rfl (by kernel_rfl) (fun _ _ _ h => h) hS (Or.inl ⟨by rfl, fun w hSw => ?hyxa16_1⟩) ?restxa16_1
          case hyxa16_1 => ((try dsimp only at hSw); go_simp; try with_reducible rfl)
          try simp only [Act.put, List.setIfInBounds_toArray, List.set_cons_zero, List.set_cons_succ]
          refine Left.take (i := 2) (v := ?vxa16_2) rfl (by kernel_rfl) (fun _ _ _ h => h) hS (Or.inl ⟨by rfl, fun w hSw => ?hyxa16_2⟩) ?restxa16_2
          case hyxa16_2 => ((try dsimp only at hSw); go_simp; try with_reducible rfl)
          try simp only [Act.put, List.setIfInBounds_toArray, List.set_cons_zero, List.set_cons_succ]
          refine Left.pure (i := 3) (v := ?vxa16_3) rfl (by kernel_rfl) (fun _ _ _ h => h) (Or.inr hS) (Or.inl ⟨by rfl, fun w _ => ?hyxa16_3⟩) ?restxa16_3
          case hyxa16_3 => (go_simp; try with_reducible rfl)
          try simp only [Act.put, List.setIfInBounds_toArray, List.set_cons_zero, List.set_cons_succ]
          refine Left.pure (i := 4) (v := ?vxa16_4) rfl (by kernel_rfl) (fun _ _ _ h => h) (Or.inr hS) (Or.inl ⟨by rfl, fun w _ => ?hyxa16_4⟩) ?restxa16_4
          case hyxa16_4 => (go_simp; try with_reducible rfl)
          try simp only [Act.put, List.setIfInBounds_toArray, List.set_cons_zero, List.set_cons_succ]
          refine Left.take (i := 5) (v := ?vxa16_5) rfl (by kernel_rfl) (fun _ _ _ h => h) hS (Or.inl ⟨by rfl, fun w hSw => ?hyxa16_5⟩) ?restxa16_5
          case hyxa16_5 => ((try dsimp only at hSw); go_simp; try with_reducible rfl)
          try simp only [Act.put, List.setIfInBounds_toArray, List.set_cons_zero, List.set_cons_succ]
          refine Left.take (i := 6) (v := ?vxa16_6) rfl (by kernel_rfl) (fun _ _ _ h => h) hS (Or.inl ⟨by rfl, fun w hSw => ?hyxa16_6⟩) ?restxa16_6
          case hyxa16_6 => ((try dsimp only at hSw); go_simp; try with_reducible rfl)
          try simp only [Act.put, List.setIfInBounds_toArray, List.set_cons_zero, List.set_cons_succ]
          refine Left.pure (i := 7) (v := ?vxa16_7) rfl (by kernel_rfl) (fun _ _ _ h => h) (Or.inr hS) (Or.inl ⟨by rfl, fun w _ => ?hyxa16_7⟩) ?restxa16_7
          case hyxa16_7 => (go_simp; try with_reducible rfl)
          try simp only [Act.put, List.setIfInBounds_toArray, List.set_cons_zero, List.set_cons_succ]
          refine Left.pure (i := 8) (v := ?vxa16_8) rfl (by kernel_rfl) (fun _ _ _ h => h) (Or.inr hS) (Or.inl ⟨by rfl, fun w _ => ?hyxa16_8⟩) ?restxa16_8
          case hyxa16_8 => (go_simp; try with_reducible rfl)
          try simp only [Act.put, List.setIfInBounds_toArray, List.set_cons_zero, List.set_cons_succ]
          refine Left.take (i := 9) (v := ?vxa16_9) rfl (by kernel_rfl) (fun _ _ _ h => h) hS (Or.inl ⟨by rfl, fun w hSw => ?hyxa16_9⟩) ?restxa16_9
          case hyxa16_9 => ((try dsimp only at hSw); go_simp; try with_reducible rfl)
          try simp only [Act.put, List.setIfInBounds_toArray, List.set_cons_zero, List.set_cons_succ]
          refine Left.run (i := 10) rfl (by kernel_rfl) (fun K hK => ?_)
          go_simp
          go_at_call 24
          refine (each_none p bt v s3 v.vt s3.tasks 1 s3.under _ w0 _ O6.out (fun w' h => CoV.tasks h) hte.out (fun w' h => trivial)).mono ?_
          rintro e w14 ⟨A7, c7, rfl, H8⟩
          have hyl : Hid ((s3.tell 1 s3.under s3.tasks nobody).length ≤ 1000) := by show _ ≤ _; unfold Co.tell; rw [List.length_map]; exact Nat.le_trans (List.length_filter_le _ _) hte.out
          have hbd : Hid ((out.length + (s3.tell 1 s3.under s3.tasks nobody).length) * 32 ≤ 140737488355328) := by show _ ≤ _; have := hol.out; have := hyl.out; omega
          obtain ⟨ys, hys⟩ : ∃ ys, s3.tell 1 s3.under s3.tasks nobody = ys := ⟨_, rfl⟩
          rw [hys] at H8 hyl hbd hst ⊢
          replace hys := Lib.hid hys
          replace H8 := Lib.hid H8
          go_simp
          replace hS : (fun w' : World => w'.cell? ⟨bt, 0, none⟩ = some (.pointer (some ⟨p, 0, none⟩)) ∧ w'.cell? ⟨p, 0, none⟩ = some v.vt ∧ w'.cell? ⟨p, 10, none⟩ = some (.int .u64 s3.under)) w14 := by exact ⟨H8.out.at3.cellOf 0 rfl, CoV.cell (H8.out.at1) 0 rfl, CoV.cell (H8.out.at1) 10 rfl⟩
          refine hK.out _ _ (Or.inr hS) ?_
          clear hK K
          try simp only [Act.put, List.setIfInBounds_toArray, List.set_cons_zero, List.set_cons_succ]
          refine Left.run (i := 11) rfl (by kernel_rfl) (fun K hK => ?_)
          simp only [Act.put, List.getElem_toArray, List.getElem_cons_zero, List.getElem_cons_succ, List.setIfInBounds_toArray, List.set_cons_zero, List.set_cons_succ]
          rw [if_pos (by rfl)]
          refine wp_appendL (E := ECtl) (v := .slice Ao out.length co) (.tmp 145) (.tmp 155) 27 (by rfl) 32 _ 4 32 Try.underlying27 infoC rfl (by decide) (by decide) rfl (by rfl) (.slice A7 ys.length c7) (by rfl) H8.out.at2 H8.out.ls_rd hbd.out ?_
          intro A9 c9 w15 H9
          replace hS : (fun w' : World => w'.cell? ⟨bt, 0, none⟩ = some (.pointer (some ⟨p, 0, none⟩)) ∧ w'.cell? ⟨p, 0, none⟩ = some v.vt ∧ w'.cell? ⟨p, 10, none⟩ = some (.int .u64 s3.under)) w15 := by exact ⟨H9.at3.cellOf 0 rfl, CoV.cell (H9.at2) 0 rfl, CoV.cell (H9.at2) 10 rfl⟩
          refine hK.out _ _ (Or.inr hS) ?_
          clear hK K
          try simp only [Act.put, List.setIfInBounds_toArray, List.set_cons_zero, List.set_cons_succ]
          refine Left.run (i := 12) rfl (by kernel_rfl) (fun K hK => ?_)
          go_simp
          refine hK.out _ _ (Or.inl (by kernel_rfl)) ?_
          clear hK K
          try simp only [Act.put, List.setIfInBounds_toArray, List.set_cons_zero, List.set_cons_succ]
          refine Left.done (by kernel_rfl) ?_ _
          rw [← List.length_append] at H9 ⊢
          go_wp2_with fail
          go_ret
          rw [hst.out]
          exact ⟨A9, c9, by first | rfl | (show _ = Ending.returned (Value.slice A9 (out ++ ys).length c9); rw [List.length_append]; rfl), H9.at1.tail.at2.tail⟩
        · have hdb : decide (s1.interval ≤ s1.ticks - s1.since) = false := by rw [decide_eq_false_iff_not]; exact hdue
          have hst : Hid (s.tick = (s1, out)) := by
            show _ = _
            rw [hgo.out]
            unfold Co.go
            rw [if_neg (by unfold Co.due; rw [hdb, Bool.and_false]; decide), if_neg (by rw [show s1.under = 0 from by simpa using hb10']; simp), ← hout.out]
          clear hdue
          go_wp2_with fail
          go_quiet (fail)
          replace H7 := Lib.hid (H7.out.drewN nq)
          clear q14 q16 q2 k0 q10
          generalize World.drewN w7 nq = w9 at *
          have k0 : w9.cell? ⟨bt, 0, none⟩ = some (.pointer (some ⟨p, 0, none⟩)) := H7.out.at2.cellOf 0 rfl
          have q10 : w9.cell? ⟨p, 10, none⟩ = some (.int .u64 0) := by
            have := CoV.cell H7.out.at1 10 (u := .int .u64 s1.under) rfl
            rwa [show s1.under = 0 from by simpa using hb10'] at this
          go_wp2_with fail
          go_ret
          rw [hst.out]
          exact ⟨Ao, co, rfl, H7.out.at2.tail⟩
      · have hub : (s1.under != 0) = true := by rw [bne_iff_ne]; exact hu
        have hub2 : (s1.under == 0) = false := by rw [beq_eq_false_iff_ne]; exact hu
        cases hsto : s1.stored with
        | true =>
          rw [hsto] at q12
          have hlate : s1.late = false := by unfold Co.late; rw [hsto]; simp
          have hst : Hid (s.tick = (s1, out)) := by
            show _ = _
            rw [htk2.out false hlate]
            unfold Co.go
            simp only [Bool.false_eq_true, if_false]
            rw [if_neg (by unfold Co.due; rw [hub2]; simp), if_neg (by rw [hsto]; simp), ← hout.out]
          have hsto' := Lib.hid hsto
          clear htk2 hlate hu hsto
          go_quiet (fail)
          have H7 := Lib.hid (H5.out.drewN nq)
          clear q10 q12 q13 q14 q15 k0 H5
          generalize World.drewN w5 nq = w7 at *
          have q10 : w7.cell? ⟨p, 10, none⟩ = some (.int .u64 s1.under) := CoV.cell H7.out.at1 10 rfl
          have k0 : w7.cell? ⟨bt, 0, none⟩ = some (.pointer (some ⟨p, 0, none⟩)) := H7.out.at2.cellOf 0 rfl
          go_wp2_with fail
          go_quiet (fail)
          replace H7 := Lib.hid (H7.out.drewN nq)
          clear k0 q10
          generalize World.drewN w7 nq = w9 at *
          have k0 : w9.cell? ⟨bt, 0, none⟩ = some (.pointer (some ⟨p, 0, none⟩)) := H7.out.at2.cellOf 0 rfl
          have q10 : w9.cell? ⟨p, 10, none⟩ = some (.int .u64 s1.under) := CoV.cell H7.out.at1 10 rfl
          have q12 : w9.cell? ⟨p, 12, none⟩ = some (.bool true) := by
            have := CoV.cell H7.out.at1 12 (u := .bool s1.stored) rfl
            rwa [hsto'.out] at this
          go_wp2_with fail
          go_ret
          rw [hst.out]
          exact ⟨Ao, co, rfl, H7.out.at2.tail⟩
        | false =>
          rw [hsto] at q12
          by_cases hlt : s1.limit ≤ s1.ticks - s1.began
          · have hlate : s1.late = true := by unfold Co.late; rw [hsto, hub, decide_eq_true hlt]; rfl
            have hgo : Hid (s.tick = s1.quit.go s.outs) := htk2.out true hlate
            clear htk2 hlate hu hsto
            go_quiet (fail)
            have H7 := Lib.hid (H5.out.drewN nq)
            clear q10 q12 q13 q14 q15 k0 H5 hlt
            generalize World.drewN w5 nq = w7 at *
            have k0 : w7.cell? ⟨bt, 0, none⟩ = some (.pointer (some ⟨p, 0, none⟩)) := H7.out.at2.cellOf 0 rfl
            have q10 : w7.cell? ⟨p, 10, none⟩ = some (.int .u64 s1.under) := CoV.cell H7.out.at1 10 rfl
            have f10 := CoV.free H7.out.at1 10
            have O := (CoV.open_ H7.out.at1).setCell (i := 10) (.int .u64 0)
            have O1 := Lib.hid (CoV.mk_ (p := p) (v := v) (s := { s1 with under := 0 }) O)
            clear O
            go_upto_region 11 with (fail)
            clear q10 f10 k0 H7
            generalize World.setCell _ _ _ = w8 at O1 ⊢
            have k0 : w8.cell? ⟨bt, 0, none⟩ = some (.pointer (some ⟨p, 0, none⟩)) := O1.out.at2.cellOf 0 rfl
            have q13 : w8.cell? ⟨p, 13, none⟩ = some (.int .i64 s1.limit) := CoV.cell O1.out 13 rfl
            have f13 := CoV.free O1.out 13
            go_still_tail 7, mixed
            change wpList _ _ _ _ _ w8.drew
            have O2 := Lib.hid O1.out.drew
            clear k0 O1 q13 f13
            generalize w8.drew = w10 at *
            have q13 : w10.cell? ⟨p, 13, none⟩ = some (.int .i64 s1.limit) := CoV.cell O2.out 13 rfl
            have f13 := CoV.free O2.out 13
            obtain ⟨lm, hlm⟩ : ∃ lm, min (2 * s1.limit) 1048576 = lm := ⟨_, rfl⟩
            have O3 := (CoV.open_ O2.out).setCell (i := 13) (.int .i64 lm)
            obtain ⟨s2, hs2⟩ : ∃ s2, s2 = s1.quit := ⟨_, rfl⟩
            have O4 := CoV.mk_ (p := p) (v := v) (s := { s1 with under := 0, limit := lm }) O3
            have hq : ({ s1 with under := 0, limit := lm } : Co) = s2 := by rw [hs2, ← hlm]; rfl
            rw [hq] at O4
            clear hq
            have O5 := Lib.hid O4.at1
            rw [← hs2] at hgo
            have hq1 : s2.ticks = s1.ticks ∧ s2.since = s1.since ∧ s2.last = s1.last ∧ s2.tasks = s1.tasks ∧ s2.under = 0 := by rw [hs2]; exact ⟨rfl, rfl, rfl, rfl, rfl⟩
            rw [← hq1.1, ← hq1.2.1] at hw2
            rw [← hq1.2.2.1] at hw4
            rw [← hq1.2.2.2.1] at hlen
            have hb10' : (s2.under == 0) = true := by rw [hq1.2.2.2.2]; rfl
            clear O3 O4 hs2 hq1 hub hub2
            rcases Int.lt_or_le 1048576 (2 * s1.limit) with hm | hm
            · have hl2 : lm = 1048576 := by omega
              subst hl2
              have hm1 : ¬ 2 * s1.limit < 1048576 := by omega
              clear hlm
              go_upto_region 12 with (fail)
              clear q13 f13 O2
              generalize World.setCell _ _ _ = w7 at O5 ⊢
              have H7 := O5
              clear O5
              have q10 : w7.cell? ⟨p, 10, none⟩ = some (.int .u64 s2.under) := CoV.cell H7.out.at1 10 rfl
              have q14 : w7.cell? ⟨p, 14, none⟩ = some (.int .i64 s2.ticks) := CoV.cell H7.out.at1 14 rfl
              have q16 : w7.cell? ⟨p, 16, none⟩ = some (.int .i64 s2.since) := CoV.cell H7.out.at1 16 rfl
              have q2 : w7.cell? ⟨p, 2, none⟩ = some (.int .i64 s2.interval) := CoV.cell H7.out.at1 2 rfl
              rw [show s2.under = 0 from by simpa using hb10'] at q10
              have k0 : w7.cell? ⟨bt, 0, none⟩ = some (.pointer (some ⟨p, 0, none⟩)) := H7.out.at2.cellOf 0 rfl
              by_cases hdue : s2.interval ≤ s2.ticks - s2.since
              · go_wp2_with fail
                go_quiet (fail)
                replace H7 := Lib.hid (H7.out.drewN nq)
                clear q10 q14 q16 q2 k0
                generalize World.drewN w7 nq = w9 at *
                have hst : Hid (s.tick = (s2.start, out ++ s2.start.tell 1 s2.start.under s2.tasks nobody)) := by
                  show _ = _
                  rw [hgo.out]
                  unfold Co.go
                  rw [if_pos (by unfold Co.due; rw [hb10']; simpa using hdue), ← hout.out]
                clear hdue
                have k0 : w9.cell? ⟨bt, 0, none⟩ = some (.pointer (some ⟨p, 0, none⟩)) := H7.out.at2.cellOf 0 rfl
                have q6 : w9.cell? ⟨p, 6, none⟩ = some (.int .u64 s2.last) := CoV.cell H7.out.at1 6 rfl
                have f6 := CoV.free H7.out.at1 6
                have O := (CoV.open_ H7.out.at1).setCell (i := 6) (.int .u64 (s2.last + 1))
                have O1 := Lib.hid (CoV.mk_ (p := p) (v := v) (s := { s2 with last := s2.last + 1 }) O)
                clear O
                go_upto_region 14 with (fail)
                clear q6 f6 k0 H7
                generalize World.setCell _ _ _ = w8 at O1 ⊢
                obtain ⟨s4, hs4⟩ : ∃ s4, s4 = { s2 with last := s2.last + 1 } := ⟨_, rfl⟩
                rw [← hs4] at O1
                obtain ⟨s3, hs3⟩ : ∃ s3, s3 = s2.start := ⟨_, rfl⟩
                have hs34 : Hid (s3 = { s4 with under := s4.last, began := s4.ticks, since := s4.ticks, acked := nobody }) := by show _ = _; rw [hs3, hs4]; rfl
                have hst4 : Hid (s3.tasks = s2.tasks) := by show _ = _; rw [hs3]; rfl
                have hte : Hid (s3.tasks.length ≤ 1000) := by show _ ≤ _; rw [hst4.out]; exact hlen
                rw [← hs3, ← hst4.out] at hst
                clear hs3 hs4 hst4
                have O2 := Lib.hid O1.out.drew
                have q10 : w8.cell? ⟨p, 10, none⟩ = some (.int .u64 s4.under) := CoV.cell O1.out 10 rfl
                have q15 : w8.cell? ⟨p, 15, none⟩ = some (.int .i64 s4.began) := CoV.cell O1.out 15 rfl
                have q16 : w8.cell? ⟨p, 16, none⟩ = some (.int .i64 s4.since) := CoV.cell O1.out 16 rfl
                have f10 := CoV.free O1.out 10
                have f15 := CoV.free O1.out 15
                have f16 := CoV.free O1.out 16
                clear O1
                refine wp_region_left (S := fun w' : World => w'.cell? ⟨bt, 0, none⟩ = some (.pointer (some ⟨p, 0, none⟩)) ∧ w'.cell? ⟨p, 6, none⟩ = some (.int .u64 s4.last) ∧ w'.cell? ⟨p, 14, none⟩ = some (.int .i64 s4.ticks)) 23 mixed ?_
                have hS : (fun w' : World => w'.cell? ⟨bt, 0, none⟩ = some (.pointer (some ⟨p, 0, none⟩)) ∧ w'.cell? ⟨p, 6, none⟩ = some (.int .u64 s4.last) ∧ w'.cell? ⟨p, 14, none⟩ = some (.int .i64 s4.ticks)) w8.drew := by exact ⟨O2.out.at2.cellOf 0 rfl, CoV.cell O2.out 6 rfl, CoV.cell O2.out 14 rfl⟩
                refine Left.take (i := 0) (v := ?vxb14_0) rfl (by kernel_rfl) (fun _ _ _ h => h) hS (Or.inl ⟨by rfl, fun w hSw => ?hyxb14_0⟩) ?restxb14_0
                case hyxb14_0 => ((try dsimp only at hSw); go_simp; try with_reducible rfl)
                try simp only [Act.put, List.setIfInBounds_toArray, List.set_cons_zero, List.set_cons_succ]
                refine Left.take (i := 1) (v := ?vxb14_1) rfl (by kernel_rfl) (fun _ _ _ h => h) hS (Or.inl ⟨by rfl, fun w hSw => ?hyxb14_1⟩) ?restxb14_1
                case hyxb14_1 => ((try dsimp only at hSw); go_simp; try with_reducible rfl)
                try simp only [Act.put, List.setIfInBounds_toArray, List.set_cons_zero, List.set_cons_succ]
                refine Left.take (i := 2) (v := ?vxb14_2) rfl (by kernel_rfl) (fun _ _ _ h => h) hS (Or.inl ⟨by rfl, fun w hSw => ?hyxb14_2⟩) ?restxb14_2
                case hyxb14_2 => ((try dsimp only at hSw); go_simp; try with_reducible rfl)
                try simp only [Act.put, List.setIfInBounds_toArray, List.set_cons_zero, List.set_cons_succ]
                refine Left.take (i := 3) (v := ?vxb14_3) rfl (by kernel_rfl) (fun _ _ _ h => h) hS (Or.inl ⟨by rfl, fun w hSw => ?hyxb14_3⟩) ?restxb14_3
                case hyxb14_3 => ((try dsimp only at hSw); go_simp; try with_reducible rfl)
                try simp only [Act.put, List.setIfInBounds_toArray, List.set_cons_zero, List.set_cons_succ]
                refine Left.pure (i := 4) (v := ?vxb14_4) rfl (by kernel_rfl) (fun _ _ _ h => h) (Or.inr hS) (Or.inl ⟨by rfl, fun w _ => ?hyxb14_4⟩) ?restxb14_4
                case hyxb14_4 => (go_simp; try with_reducible rfl)
                try simp only [Act.put, List.setIfInBounds_toArray, List.set_cons_zero, List.set_cons_succ]
                refine Left.pure (i := 5) (v := ?vxb14_5) rfl (by kernel_rfl) (fun _ _ _ h => h) (Or.inr hS) (Or.inl ⟨by rfl, fun w _ => ?hyxb14_5⟩) ?restxb14_5
                case hyxb14_5 => (go_simp; try with_reducible rfl)
                try simp only [Act.put, List.setIfInBounds_toArray, List.set_cons_zero, List.set_cons_succ]
                refine Left.take (i := 6) (v := ?vxb14_6) rfl (by kernel_rfl) (fun _ _ _ h => h) hS (Or.inl ⟨by rfl, fun w hSw => ?hyxb14_6⟩) ?restxb14_6
                case hyxb14_6 => ((try dsimp only at hSw); go_simp; try with_reducible rfl)
                try simp only [Act.put, List.setIfInBounds_toArray, List.set_cons_zero, List.set_cons_succ]
                refine Left.take (i := 7) (v := ?vxb14_7) rfl (by kernel_rfl) (fun _ _ _ h => h) hS (Or.inl ⟨by rfl, fun w hSw => ?hyxb14_7⟩) ?restxb14_7
                case hyxb14_7 => ((try dsimp only at hSw); go_simp; try with_reducible rfl)
                try simp only [Act.put, List.setIfInBounds_toArray, List.set_cons_zero, List.set_cons_succ]
                refine Left.pure (i := 8) (v := ?vxb14_8) rfl (by kernel_rfl) (fun _ _ _ h => h) (Or.inr hS) (Or.inl ⟨by rfl, fun w _ => ?hyxb14_8⟩) ?restxb14_8
                case hyxb14_8 => (go_simp; try with_reducible rfl)
                try simp only [Act.put, List.setIfInBounds_toArray, List.set_cons_zero, List.set_cons_succ]
                refine Left.pure (i := 9) (v := ?vxb14_9) rfl (by kernel_rfl) (fun _ _ _ h => h) (Or.inr hS) (Or.inl ⟨by rfl, fun w _ => ?hyxb14_9⟩) ?restxb14_9
                case hyxb14_9 => (go_simp; try with_reducible rfl)
                try simp only [Act.put, List.setIfInBounds_toArray, List.set_cons_zero, List.set_cons_succ]
                refine Left.take (i := 10) (v := ?vxb14_10) rfl (by kernel_rfl) (fun _ _ _ h => h) hS (Or.inl ⟨by rfl, fun w hSw => ?hyxb14_10⟩) ?restxb14_10
                case hyxb14_10 => ((try dsimp only at hSw); go_simp; try with_reducible rfl)
                try simp only [Act.put, List.setIfInBounds_toArray, List.set_cons_zero, List.set_cons_succ]
                refine Left.take (i := 11) (v := ?vxb14_11) rfl (by kernel_rfl) (fun _ _ _ h => h) hS (Or.inl ⟨by rfl, fun w hSw => ?hyxb14_11⟩) ?restxb14_11
                case hyxb14_11 => ((try dsimp only at hSw); go_simp; try with_reducible rfl)
                try simp only [Act.put, List.setIfInBounds_toArray, List.set_cons_zero, List.set_cons_succ]
                refine Left.pure (i := 12) (v := ?vxb14_12) rfl (by kernel_rfl) (fun _ _ _ h => h) (Or.inr hS) (Or.inl ⟨by rfl, fun w _ => ?hyxb14_12⟩) ?restxb14_12
                case hyxb14_12 => (go_simp; try with_reducible rfl)
                try simp only [Act.put, List.setIfInBounds_toArray, List.set_cons_zero, List.set_cons_succ]
                refine Left.pure (i := 13) (v := ?vxb14_13) rfl (by kernel_rfl) (fun _ _ _ h => h) (Or.inr hS) (Or.inl ⟨by rfl, fun w _ => ?hyxb14_13⟩) ?restxb14_13
                case hyxb14_13 => (go_simp; try with_reducible rfl)
                try simp only [Act.put, List.setIfInBounds_toArray, List.set_cons_zero, List.set_cons_succ]
                refine Left.take (i := 14) (v := ?vxb14_14) rfl (by kernel_rfl) (fun _ _ _ h => h) hS (Or.inl ⟨by rfl, fun w hSw => ?hyxb14_14⟩) ?restxb14_14
                case hyxb14_14 => ((try dsimp only at hSw); go_simp; try with_reducible rfl)
                try simp only [Act.put, List.setIfInBounds_toArray, List.set_cons_zero, List.set_cons_succ]
                refine Left.pure (i := 15) (v := ?vxb14_15) rfl (by kernel_rfl) (fun _ _ _ h => h) (Or.inr hS) (Or.inl ⟨by rfl, fun w _ => ?hyxb14_15⟩) ?restxb14_15
                case hyxb14_15 => (go_simp; try with_reducible rfl)
                try simp only [Act.put, List.setIfInBounds_toArray, List.set_cons_zero, List.set_cons_succ]
                refine Left.pure (i := 16) (v := ?vxb14_16) rfl (by kernel_rfl) (fun _ _ _ h => h) (Or.inr hS) (Or.inl ⟨by rfl, fun w _ => ?hyxb14_16⟩) ?restxb14_16
                case hyxb14_16 => (go_simp; try with_reducible rfl)
                try simp only [Act.put, List.setIfInBounds_toArray, List.set_cons_zero, List.set_cons_succ]
                refine Left.run (i := 17) rfl (by kernel_rfl) (fun K hK => ?_)
                have O3 := (CoV.open_ O2.out).setCell (i := 10) (.int .u64 s4.last)
                go_simp
                replace hS : (fun w' : World => w'.cell? ⟨bt, 0, none⟩ = some (.pointer (some ⟨p, 0, none⟩)) ∧ w'.cell? ⟨p, 6, none⟩ = some (.int .u64 s4.last) ∧ w'.cell? ⟨p, 14, none⟩ = some (.int .i64 s4.ticks)) (w8.drew.setCell ⟨p, 10, none⟩ (.int .u64 s4.last)) := by exact ⟨O3.at7.cellOf 0 rfl, O3.cellOf 6 rfl, O3.cellOf 14 rfl⟩
                refine hK.out _ _ (Or.inr hS) ?_
                clear hK K
                try simp only [Act.put, List.setIfInBounds_toArray, List.set_cons_zero, List.set_cons_succ]
                refine Left.pure (i := 18) (v := ?vxb14_18) rfl (by kernel_rfl) (fun _ _ _ h => h) (Or.inr hS) (Or.inl ⟨by rfl, fun w _ => ?hyxb14_18⟩) ?restxb14_18
                case hyxb14_18 => (go_simp; try with_reducible rfl)
                try simp only [Act.put, List.setIfInBounds_toArray, List.set_cons_zero, List.set_cons_succ]
                refine Left.pure (i := 19) (v := ?vxb14_19) rfl (by kernel_rfl) (fun _ _ _ h => h) (Or.inr hS) (Or.inl ⟨by rfl, fun w _ => ?hyxb14_19⟩) ?restxb14_19
                case hyxb14_19 => (go_simp; try with_reducible rfl)
                try simp only [Act.put, List.setIfInBounds_toArray, List.set_cons_zero, List.set_cons_succ]
                refine Left.run (i := 20) rfl (by kernel_rfl) (fun K hK => ?_)
                replace O3 := O3.setCell (i := 15) (.int .i64 s4.ticks)
                go_simp
                replace hS : (fun w' : World => w'.cell? ⟨bt, 0, none⟩ = some (.pointer (some ⟨p, 0, none⟩)) ∧ w'.cell? ⟨p, 6, none⟩ = some (.int .u64 s4.last) ∧ w'.cell? ⟨p, 14, none⟩ = some (.int .i64 s4.ticks)) ((w8.drew.setCell ⟨p, 10, none⟩ (.int .u64 s4.last)).setCell ⟨p, 15, none⟩ (.int .i64 s4.ticks)) := by exact ⟨O3.at7.cellOf 0 rfl, O3.cellOf 6 rfl, O3.cellOf 14 rfl⟩
                refine hK.out _ _ (Or.inr hS) ?_
                clear hK K
                try simp only [Act.put, List.setIfInBounds_toArray, List.set_cons_zero, List.set_cons_succ]
                refine Left.pure (i := 21) (v := ?vxb14_21) rfl (by kernel_rfl) (fun _ _ _ h => h) (Or.inr hS) (Or.inl ⟨by rfl, fun w _ => ?hyxb14_21⟩) ?restxb14_21
                case hyxb14_21 => (go_simp; try with_reducible rfl)
                try simp only [Act.put, List.setIfInBounds_toArray, List.set_cons_zero, List.set_cons_succ]
                refine Left.pure (i := 22) (v := ?vxb14_22) rfl (by kernel_rfl) (fun _ _ _ h => h) (Or.inr hS) (Or.inl ⟨by rfl, fun w _ => ?hyxb14_22⟩) ?restxb14_22
                case hyxb14_22 => (go_simp; try with_reducible rfl)
                try simp only [Act.put, List.setIfInBounds_toArray, List.set_cons_zero, List.set_cons_succ]
                refine Left.run (i := 23) rfl (by kernel_rfl) (fun K hK => ?_)
                go_simp
                refine hK.out _ _ (Or.inl (by kernel_rfl)) ?_
                clear hK K
                try simp only [Act.put, List.setIfInBounds_toArray, List.set_cons_zero, List.set_cons_succ]
                refine Left.done (by kernel_rfl) ?_ _
                replace O3 : Hs w0 (((w8.setCell ⟨p, 10, none⟩ (.int .u64 s4.last)).setCell ⟨p, 15, none⟩ (.int .i64 s4.ticks)).setCell ⟨p, 16, none⟩ (.int .i64 s4.ticks)).drew _ := O3.setCell (i := 16) (.int .i64 s4.ticks)
                clear q10 q15 q16 f10 f15 f16 O2 hS
                generalize World.drew _ = w11 at O3 ⊢
                simp only [coCells, List.setIfInBounds_toArray, List.set_cons_zero, List.set_cons_succ] at O3
                have k0 : w11.cell? ⟨bt, 0, none⟩ = some (.pointer (some ⟨p, 0, none⟩)) := O3.at7.cellOf 0 rfl
                have k8 : w11.cell? ⟨p, 8, none⟩ = some (.map (some v.m2)) := O3.cellOf 8 rfl
                obtain ⟨w12, hr2, O4⟩ := O3.at4.mf_clear (P := Try.prog) 48 3 4 0 Try.underlying48
                have O5 := CoV.mk_ (p := p) (v := v) (s := { s4 with under := s4.last, began := s4.ticks, since := s4.ticks, acked := nobody }) O4.at4.at4.at4.at4
                rw [← hs34.out] at O5
                replace O5 := Lib.hid O5
                clear O3 O4
                go_upto_region 16 with (fail)
                clear k0 k8 hr2
                have O6 := Lib.hid O5.out.drew
                clear O5
                refine wp_region_left (S := fun w' : World => w'.cell? ⟨bt, 0, none⟩ = some (.pointer (some ⟨p, 0, none⟩)) ∧ w'.cell? ⟨p, 0, none⟩ = some v.vt ∧ w'.cell? ⟨p, 10, none⟩ = some (.int .u64 s3.under)) 12 mixed ?_
                have hS : (fun w' : World => w'.cell? ⟨bt, 0, none⟩ = some (.pointer (some ⟨p, 0, none⟩)) ∧ w'.cell? ⟨p, 0, none⟩ = some v.vt ∧ w'.cell? ⟨p, 10, none⟩ = some (.int .u64 s3.under)) w12.drew := by exact ⟨O6.out.at2.cellOf 0 rfl, CoV.cell (O6.out) 0 rfl, CoV.cell (O6.out) 10 rfl⟩
                refine Left.pure (i := 0) (v := ?vxb16_0) rfl (by kernel_rfl) (fun _ _ _ h => h) (Or.inr hS) (Or.inl ⟨by rfl, fun w _ => ?hyxb16_0⟩) ?restxb16_0
                case hyxb16_0 => (go_simp; try with_reducible rfl)
                try simp only [Act.put, List.setIfInBounds_toArray, List.set_cons_zero, List.set_cons_succ]
                refine Left.take (i := 1) (v := ?vxb16_1) rfl (by kernel_rfl) (fun _ _ _ h => h) hS (Or.inl ⟨by rfl, fun w hSw => ?hyxb16_1⟩) ?restxb16_1
                case hyxb16_1 => ((try dsimp only at hSw); go_simp; try with_reducible rfl)
                try simp only [Act.put, List.setIfInBounds_toArray, List.set_cons_zero, List.set_cons_succ]
                refine Left.take (i := 2) (v := ?vxb16_2) rfl (by kernel_rfl) (fun _ _ _ h => h) hS (Or.inl ⟨by rfl, fun w hSw => ?hyxb16_2⟩) ?restxb16_2
                case hyxb16_2 => ((try dsimp only at hSw); go_simp; try with_reducible rfl)
                try simp only [Act.put, List.setIfInBounds_toArray, List.set_cons_zero, List.set_cons_succ]
                refine Left.pure (i := 3) (v := ?vxb16_3) rfl (by kernel_rfl) (fun _ _ _ h => h) (Or.inr hS) (Or.inl ⟨by rfl, fun w _ => ?hyxb16_3⟩) ?restxb16_3
                case hyxb16_3 => (go_simp; try with_reducible rfl)
                try simp only [Act.put, List.setIfInBounds_toArray, List.set_cons_zero, List.set_cons_succ]
                refine Left.pure (i := 4) (v := ?vxb16_4) rfl (by kernel_rfl) (fun _ _ _ h => h) (Or.inr hS) (Or.inl ⟨by rfl, fun w _ => ?hyxb16_4⟩) ?restxb16_4
                case hyxb16_4 => (go_simp; try with_reducible rfl)
                try simp only [Act.put, List.setIfInBounds_toArray, List.set_cons_zero, List.set_cons_succ]
                refine Left.take (i := 5) (v := ?vxb16_5) rfl (by kernel_rfl) (fun _ _ _ h => h) hS (Or.inl ⟨by rfl, fun w hSw => ?hyxb16_5⟩) ?restxb16_5
                case hyxb16_5 => ((try dsimp only at hSw); go_simp; try with_reducible rfl)
                try simp only [Act.put, List.setIfInBounds_toArray, List.set_cons_zero, List.set_cons_succ]
                refine Left.take (i := 6) (v := ?vxb16_6) rfl (by kernel_rfl) (fun _ _ _ h => h) hS (Or.inl ⟨by rfl, fun w hSw => ?hyxb16_6⟩) ?restxb16_6
                case hyxb16_6 => ((try dsimp only at hSw); go_simp; try with_reducible rfl)
                try simp only [Act.put, List.setIfInBounds_toArray, List.set_cons_zero, List.set_cons_succ]
                refine Left.pure (i := 7) (v := ?vxb16_7) rfl (by kernel_rfl) (fun _ _ _ h => h) (Or.inr hS) (Or.inl ⟨by rfl, fun w _ => ?hyxb16_7⟩) ?restxb16_7
                case hyxb16_7 => (go_simp; try with_reducible rfl)
                try simp only [Act.put, List.setIfInBounds_toArray, List.set_cons_zero, List.set_cons_succ]
                refine Left.pure (i := 8) (v := ?vxb16_8) rfl (by kernel_rfl) (fun _ _ _ h => h) (Or.inr hS) (Or.inl ⟨by rfl, fun w _ => ?hyxb16_8⟩) ?restxb16_8
                case hyxb16_8 => (go_simp; try with_reducible rfl)
                try simp only [Act.put, List.setIfInBounds_toArray, List.set_cons_zero, List.set_cons_succ]
                refine Left.take (i := 9) (v := ?vxb16_9) rfl (by kernel_rfl) (fun _ _ _ h => h) hS (Or.inl ⟨by rfl, fun w hSw => ?hyxb16_9⟩) ?restxb16_9
                case hyxb16_9 => ((try dsimp only at hSw); go_simp; try with_reducible rfl)
                try simp only [Act.put, List.setIfInBounds_toArray, List.set_cons_zero, List.set_cons_succ]
                refine Left.run (i := 10) rfl (by kernel_rfl) (fun K hK => ?_)
                go_simp
                go_at_call 24
                refine (each_none p bt v s3 v.vt s3.tasks 1 s3.under _ w0 _ O6.out (fun w' h => CoV.tasks h) hte.out (fun w' h => trivial)).mono ?_
                rintro e w14 ⟨A7, c7, rfl, H8⟩
                have hyl : Hid ((s3.tell 1 s3.under s3.tasks nobody).length ≤ 1000) := by show _ ≤ _; unfold Co.tell; rw [List.length_map]; exact Nat.le_trans (List.length_filter_le _ _) hte.out
                have hbd : Hid ((out.length + (s3.tell 1 s3.under s3.tasks nobody).length) * 32 ≤ 140737488355328) := by show _ ≤ _; have := hol.out; have := hyl.out; omega
                obtain ⟨ys, hys⟩ : ∃ ys, s3.tell 1 s3.under s3.tasks nobody = ys := ⟨_, rfl⟩
                rw [hys] at H8 hyl hbd hst ⊢
                replace hys := Lib.hid hys
                replace H8 := Lib.hid H8
                go_simp
                replace hS : (fun w' : World => w'.cell? ⟨bt, 0, none⟩ = some (.pointer (some ⟨p, 0, none⟩)) ∧ w'.cell? ⟨p, 0, none⟩ = some v.vt ∧ w'.cell? ⟨p, 10, none⟩ = some (.int .u64 s3.under)) w14 := by exact ⟨H8.out.at3.cellOf 0 rfl, CoV.cell (H8.out.at1) 0 rfl, CoV.cell (H8.out.at1) 10 rfl⟩
                refine hK.out _ _ (Or.inr hS) ?_
                clear hK K
                try simp only [Act.put, List.setIfInBounds_toArray, List.set_cons_zero, List.set_cons_succ]
                refine Left.run (i := 11) rfl (by kernel_rfl) (fun K hK => ?_)
                simp only [Act.put, List.getElem_toArray, List.getElem_cons_zero, List.getElem_cons_succ, List.setIfInBounds_toArray, List.set_cons_zero, List.set_cons_succ]
                rw [if_pos (by rfl)]
                refine wp_appendL (E := ECtl) (v := .slice Ao out.length co) (.tmp 145) (.tmp 155) 27 (by rfl) 32 _ 4 32 Try.underlying27 infoC rfl (by decide) (by decide) rfl (by rfl) (.slice A7 ys.length c7) (by rfl) H8.out.at2 H8.out.ls_rd hbd.out ?_
                intro A9 c9 w15 H9
                replace hS : (fun w' : World => w'.cell? ⟨bt, 0, none⟩ = some (.pointer (some ⟨p, 0, none⟩)) ∧ w'.cell? ⟨p, 0, none⟩ = some v.vt ∧ w'.cell? ⟨p, 10, none⟩ = some (.int .u64 s3.under)) w15 := by exact ⟨H9.at3.cellOf 0 rfl, CoV.cell (H9.at2) 0 rfl, CoV.cell (H9.at2) 10 rfl⟩
                refine hK.out _ _ (Or.inr hS) ?_
                clear hK K
                try simp only [Act.put, List.setIfInBounds_toArray, List.set_cons_zero, List.set_cons_succ]
                refine Left.run (i := 12) rfl (by kernel_rfl) (fun K hK => ?_)
                go_simp
                refine hK.out _ _ (Or.inl (by kernel_rfl)) ?_
                clear hK K
                try simp only [Act.put, List.setIfInBounds_toArray, List.set_cons_zero, List.set_cons_succ]
                refine Left.done (by kernel_rfl) ?_ _
                rw [← List.length_append] at H9 ⊢
                go_wp2_with fail
                go_ret
                rw [hst.out]
                exact ⟨A9, c9, by first | rfl | (show _ = Ending.returned (Value.slice A9 (out ++ ys).length c9); rw [List.length_append]; rfl), H9.at1.tail.at2.tail⟩
              · have hdb : decide (s2.interval ≤ s2.ticks - s2.since) = false := by rw [decide_eq_false_iff_not]; exact hdue
                have hst : Hid (s.tick = (s2, out)) := by
                  show _ = _
                  rw [hgo.out]
                  unfold Co.go
                  rw [if_neg (by unfold Co.due; rw [hdb, Bool.and_false]; decide), if_neg (by rw [show s2.under = 0 from by simpa using hb10']; simp), ← hout.out]
                clear hdue
                go_wp2_with fail
                go_quiet (fail)
                replace H7 := Lib.hid (H7.out.drewN nq)
                clear q14 q16 q2 k0 q10
                generalize World.drewN w7 nq = w9 at *
                have k0 : w9.cell? ⟨bt, 0, none⟩ = some (.pointer (some ⟨p, 0, none⟩)) := H7.out.at2.cellOf 0 rfl
                have q10 : w9.cell? ⟨p, 10, none⟩ = some (.int .u64 0) := by
                  have := CoV.cell H7.out.at1 10 (u := .int .u64 s2.under) rfl
                  rwa [show s2.under = 0 from by simpa using hb10'] at this
                go_wp2_with fail
                go_ret
                rw [hst.out]
                exact ⟨Ao, co, rfl, H7.out.at2.tail⟩
            · have hl2 : lm = 2 * s1.limit := by omega
              subst hl2
              have hm1 : ¬ 1048576 < 2 * s1.limit := by omega
              clear hlm
              go_upto_region 12 with (fail)
              clear q13 f13 O2
              generalize World.setCell _ _ _ = w7 at O5 ⊢
              have H7 := O5
              clear O5
              have q10 : w7.cell? ⟨p, 10, none⟩ = some (.int .u64 s2.under) := CoV.cell H7.out.at1 10 rfl
              have q14 : w7.cell? ⟨p, 14, none⟩ = some (.int .i64 s2.ticks) := CoV.cell H7.out.at1 14 rfl
              have q16 : w7.cell? ⟨p, 16, none⟩ = some (.int .i64 s2.since) := CoV.cell H7.out.at1 16 rfl
              have q2 : w7.cell? ⟨p, 2, none⟩ = some (.int .i64 s2.interval) := CoV.cell H7.out.at1 2 rfl
              rw [show s2.under = 0 from by simpa using hb10'] at q10
              have k0 : w7.cell? ⟨bt, 0, none⟩ = some (.pointer (some ⟨p, 0, none⟩)) := H7.out.at2.cellOf 0 rfl
              by_cases hdue : s2.interval ≤ s2.ticks - s2.since
              · go_wp2_with fail
                go_quiet (fail)
                replace H7 := Lib.hid (H7.out.drewN nq)
                clear q10 q14 q16 q2 k0
                generalize World.drewN w7 nq = w9 at *
                have hst : Hid (s.tick = (s2.start, out ++ s2.start.tell 1 s2.start.under s2.tasks nobody)) := by
                  show _ = _
                  rw [hgo.out]
                  unfold Co.go
                  rw [if_pos (by unfold Co.due; rw [hb10']; simpa using hdue), ← hout.out]
                clear hdue
                have k0 : w9.cell? ⟨bt, 0, none⟩ = some (.pointer (some ⟨p, 0, none⟩)) := H7.out.at2.cellOf 0 rfl
                have q6 : w9.cell? ⟨p, 6, none⟩ = some (.int .u64 s2.last) := CoV.cell H7.out.at1 6 rfl
                have f6 := CoV.free H7.out.at1 6
                have O := (CoV.open_ H7.out.at1).setCell (i := 6) (.int .u64 (s2.last + 1))
                have O1 := Lib.hid (CoV.mk_ (p := p) (v := v) (s := { s2 with last := s2.last + 1 }) O)
                clear O
                go_upto_region 14 with (fail)
                clear q6 f6 k0 H7
                generalize World.setCell _ _ _ = w8 at O1 ⊢
                obtain ⟨s4, hs4⟩ : ∃ s4, s4 = { s2 with last := s2.last + 1 } := ⟨_, rfl⟩
                rw [← hs4] at O1
                obtain ⟨s3, hs3⟩ : ∃ s3, s3 = s2.start := ⟨_, rfl⟩
                have hs34 : Hid (s3 = { s4 with under := s4.last, began := s4.ticks, since := s4.ticks, acked := nobody }) := by show _ = _; rw [hs3, hs4]; rfl
                have hst4 : Hid (s3.tasks = s2.tasks) := by show _ = _; rw [hs3]; rfl
                have hte : Hid (s3.tasks.length ≤ 1000) := by show _ ≤ _; rw [hst4.out]; exact hlen
                rw [← hs3, ← hst4.out] at hst
                clear hs3 hs4 hst4
                have O2 := Lib.hid O1.out.drew
                have q10 : w8.cell? ⟨p, 10, none⟩ = some (.int .u64 s4.under) := CoV.cell O1.out 10 rfl
                have q15 : w8.cell? ⟨p, 15, none⟩ = some (.int .i64 s4.began) := CoV.cell O1.out 15 rfl
                have q16 : w8.cell? ⟨p, 16, none⟩ = some (.int .i64 s4.since) := CoV.cell O1.out 16 rfl
                have f10 := CoV.free O1.out 10
                have f15 := CoV.free O1.out 15
                have f16 := CoV.free O1.out 16
                clear O1
                refine wp_region_left (S := fun w' : World => w'.cell? ⟨bt, 0, none⟩ = some (.pointer (some ⟨p, 0, none⟩)) ∧ w'.cell? ⟨p, 6, none⟩ = some (.int .u64 s4.last) ∧ w'.cell? ⟨p, 14, none⟩ = some (.int .i64 s4.ticks)) 23 mixed ?_
                have hS : (fun w' : World => w'.cell? ⟨bt, 0, none⟩ = some (.pointer (some ⟨p, 0, none⟩)) ∧ w'.cell? ⟨p, 6, none⟩ = some (.int .u64 s4.last) ∧ w'.cell? ⟨p, 14, none⟩ = some (.int .i64 s4.ticks)) w8.drew := by exact ⟨O2.out.at2.cellOf 0 rfl, CoV.cell O2.out 6 rfl, CoV.cell O2.out 14 rfl⟩
                refine Left.take (i := 0) (v := ?vxc14_0) rfl (by kernel_rfl) (fun _ _ _ h => h) hS (Or.inl ⟨by rfl, fun w hSw => ?hyxc14_0⟩) ?restxc14_0
                case hyxc14_0 => ((try dsimp only at hSw); go_simp; try with_reducible rfl)
                try simp only [Act.put, List.setIfInBounds_toArray, List.set_cons_zero, List.set_cons_succ]
                refine Left.take (i := 1) (v := ?vxc14_1) rfl (by kernel_rfl) (fun _ _ _ h => h) hS (Or.inl ⟨by rfl, fun w hSw => ?hyxc14_1⟩) ?restxc14_1
                case hyxc14_1 => ((try dsimp only at hSw); go_simp; try with_reducible rfl)
                try simp only [Act.put, List.setIfInBounds_toArray, List.set_cons_zero, List.set_cons_succ]
                refine Left.take (i := 2) (v := ?vxc14_2) rfl (by kernel_rfl) (fun _ _ _ h => h) hS (Or.inl ⟨by rfl, fun w hSw => ?hyxc14_2⟩) ?restxc14_2
                case hyxc14_2 => ((try dsimp only at hSw); go_simp; try with_reducible rfl)
                try simp only [Act.put, List.setIfInBounds_toArray, List.set_cons_zero, List.set_cons_succ]
                refine Left.take (i := 3) (v := ?vxc14_3) rfl (by kernel_rfl) (fun _ _ _ h => h) hS (Or.inl ⟨by rfl, fun w hSw => ?hyxc14_3⟩) ?restxc14_3
                case hyxc14_3 => ((try dsimp only at hSw); go_simp; try with_reducible rfl)
                try simp only [Act.put, List.setIfInBounds_toArray, List.set_cons_zero, List.set_cons_succ]
                refine Left.pure (i := 4) (v := ?vxc14_4) rfl (by kernel_rfl) (fun _ _ _ h => h) (Or.inr hS) (Or.inl ⟨by rfl, fun w _ => ?hyxc14_4⟩) ?restxc14_4
                case hyxc14_4 => (go_simp; try with_reducible rfl)
                try simp only [Act.put, List.setIfInBounds_toArray, List.set_cons_zero, List.set_cons_succ]
                refine Left.pure (i := 5) (v := ?vxc14_5) rfl (by kernel_rfl) (fun _ _ _ h => h) (Or.inr hS) (Or.inl ⟨by rfl, fun w _ => ?hyxc14_5⟩) ?restxc14_5
                case hyxc14_5 => (go_simp; try with_reducible rfl)
                try simp only [Act.put, List.setIfInBounds_toArray, List.set_cons_zero, List.set_cons_succ]
                refine Left.take (i := 6) (v := ?vxc14_6) rfl (by kernel_rfl) (fun _ _ _ h => h) hS (Or.inl ⟨by rfl, fun w hSw => ?hyxc14_6⟩) ?restxc14_6
                case hyxc14_6 => ((try dsimp only at hSw); go_simp; try with_reducible rfl)
                try simp only [Act.put, List.setIfInBounds_toArray, List.set_cons_zero, List.set_cons_succ]
                refine Left.take (i := 7) (v := ?vxc14_7) rfl (by kernel_rfl) (fun _ _ _ h => h) hS (Or.inl ⟨by rfl, fun w hSw => ?hyxc14_7⟩) ?restxc14_7
                case hyxc14_7 => ((try dsimp only at hSw); go_simp; try with_reducible rfl)
                try simp only [Act.put, List.setIfInBounds_toArray, List.set_cons_zero, List.set_cons_succ]
                refine Left.pure (i := 8) (v := ?vxc14_8) rfl (by kernel_rfl) (fun _ _ _ h => h) (Or.inr hS) (Or.inl ⟨by rfl, fun w _ => ?hyxc14_8⟩) ?restxc14_8
                case hyxc14_8 => (go_simp; try with_reducible rfl)
                try simp only [Act.put, List.setIfInBounds_toArray, List.set_cons_zero, List.set_cons_succ]
                refine Left.pure (i := 9) (v := ?vxc14_9) rfl (by kernel_rfl) (fun _ _ _ h => h) (Or.inr hS) (Or.inl ⟨by rfl, fun w _ => ?hyxc14_9⟩) ?restxc14_9
                case hyxc14_9 => (go_simp; try with_reducible rfl)
                try simp only [Act.put, List.setIfInBounds_toArray, List.set_cons_zero, List.set_cons_succ]
                refine Left.take (i := 10) (v := ?vxc14_10) rfl (by kernel_rfl) (fun _ _ _ h => h) hS (Or.inl ⟨by rfl, fun w hSw => ?hyxc14_10⟩) ?restxc14_10
                case hyxc14_10 => ((try dsimp only at hSw); go_simp; try with_reducible rfl)
                try simp only [Act.put, List.setIfInBounds_toArray, List.set_cons_zero, List.set_cons_succ]
                refine Left.take (i := 11) (v := ?vxc14_11) rfl (by kernel_rfl) (fun _ _ _ h => h) hS (Or.inl ⟨by rfl, fun w hSw => ?hyxc14_11⟩) ?restxc14_11
                case hyxc14_11 => ((try dsimp only at hSw); go_simp; try with_reducible rfl)
                try simp only [Act.put, List.setIfInBounds_toArray, List.set_cons_zero, List.set_cons_succ]
                refine Left.pure (i := 12) (v := ?vxc14_12) rfl (by kernel_rfl) (fun _ _ _ h => h) (Or.inr hS) (Or.inl ⟨by rfl, fun w _ => ?hyxc14_12⟩) ?restxc14_12
                case hyxc14_12 => (go_simp; try with_reducible rfl)
                try simp only [Act.put, List.setIfInBounds_toArray, List.set_cons_zero, List.set_cons_succ]
                refine Left.pure (i := 13) (v := ?vxc14_13) rfl (by kernel_rfl) (fun _ _ _ h => h) (Or.inr hS) (Or.inl ⟨by rfl, fun w _ => ?hyxc14_13⟩) ?restxc14_13
                case hyxc14_13 => (go_simp; try with_reducible rfl)
                try simp only [Act.put, List.setIfInBounds_toArray, List.set_cons_zero, List.set_cons_succ]
                refine Left.take (i := 14) (v := ?vxc14_14) rfl (by kernel_rfl) (fun _ _ _ h => h) hS (Or.inl ⟨by rfl, fun w hSw => ?hyxc14_14⟩) ?restxc14_14
                case hyxc14_14 => ((try dsimp only at hSw); go_simp; try with_reducible rfl)
                try simp only [Act.put, List.setIfInBounds_toArray, List.set_cons_zero, List.set_cons_succ]
                refine Left.pure (i := 15) (v := ?vxc14_15) rfl (by kernel_rfl) (fun _ _ _ h => h) (Or.inr hS) (Or.inl ⟨by rfl, fun w _ => ?hyxc14_15⟩) ?restxc14_15
                case hyxc14_15 => (go_simp; try with_reducible rfl)
                try simp only [Act.put, List.setIfInBounds_toArray, List.set_cons_zero, List.set_cons_succ]
                refine Left.pure (i := 16) (v := ?vxc14_16) rfl (by kernel_rfl) (fun _ _ _ h => h) (Or.inr hS) (Or.inl ⟨by rfl, fun w _ => ?hyxc14_16⟩) ?restxc14_16
                case hyxc14_16 => (go_simp; try with_reducible rfl)
                try simp only [Act.put, List.setIfInBounds_toArray, List.set_cons_zero, List.set_cons_succ]
                refine Left.run (i := 17) rfl (by kernel_rfl) (fun K hK => ?_)
                have O3 := (CoV.open_ O2.out).setCell (i := 10) (.int .u64 s4.last)
                go_simp
                replace hS : (fun w' : World => w'.cell? ⟨bt, 0, none⟩ = some (.pointer (some ⟨p, 0, none⟩)) ∧ w'.cell? ⟨p, 6, none⟩ = some (.int .u64 s4.last) ∧ w'.cell? ⟨p, 14, none⟩ = some (.int .i64 s4.ticks)) (w8.drew.setCell ⟨p, 10, none⟩ (.int .u64 s4.last)) := by exact ⟨O3.at7.cellOf 0 rfl, O3.cellOf 6 rfl, O3.cellOf 14 rfl⟩
                refine hK.out _ _ (Or.inr hS) ?_
                clear hK K
                try simp only [Act.put, List.setIfInBounds_toArray, List.set_cons_zero, List.set_cons_succ]
                refine Left.pure (i := 18) (v := ?vxc14_18) rfl (by kernel_rfl) (fun _ _ _ h => h) (Or.inr hS) (Or.inl ⟨by rfl, fun w _ => ?hyxc14_18⟩) ?restxc14_18
                case hyxc14_18 => (go_simp; try with_reducible rfl)
                try simp only [Act.put, List.setIfInBounds_toArray, List.set_cons_zero, List.set_cons_succ]
                refine Left.pure (i := 19) (v := ?vxc14_19) rfl (by kernel_rfl) (fun _ _ _ h => h) (Or.inr hS) (Or.inl ⟨by rfl, fun w _ => ?hyxc14_19⟩) ?restxc14_19
                case hyxc14_19 => (go_simp; try with_reducible rfl)
                try simp only [Act.put, List.setIfInBounds_toArray, List.set_cons_zero, List.set_cons_succ]
                refine Left.run (i := 20) rfl (by kernel_rfl) (fun K hK => ?_)
                replace O3 := O3.setCell (i := 15) (.int .i64 s4.ticks)
                go_simp
                replace hS : (fun w' : World => w'.cell? ⟨bt, 0, none⟩ = some (.pointer (some ⟨p, 0, none⟩)) ∧ w'.cell? ⟨p, 6, none⟩ = some (.int .u64 s4.last) ∧ w'.cell? ⟨p, 14, none⟩ = some (.int .i64 s4.ticks)) ((w8.drew.setCell ⟨p, 10, none⟩ (.int .u64 s4.last)).setCell ⟨p, 15, none⟩ (.int .i64 s4.ticks)) := by exact ⟨O3.at7.cellOf 0 rfl, O3.cellOf 6 rfl, O3.cellOf 14 rfl⟩
                refine hK.out _ _ (Or.inr hS) ?_
                clear hK K
                try simp only [Act.put, List.setIfInBounds_toArray, List.set_cons_zero, List.set_cons_succ]
                refine Left.pure (i := 21) (v := ?vxc14_21) rfl (by kernel_rfl) (fun _ _ _ h => h) (Or.inr hS) (Or.inl ⟨by rfl, fun w _ => ?hyxc14_21⟩) ?restxc14_21
                case hyxc14_21 => (go_simp; try with_reducible rfl)
                try simp only [Act.put, List.setIfInBounds_toArray, List.set_cons_zero, List.set_cons_succ]
                refine Left.pure (i := 22) (v := ?vxc14_22) rfl (by kernel_rfl) (fun _ _ _ h => h) (Or.inr hS) (Or.inl ⟨by rfl, fun w _ => ?hyxc14_22⟩) ?restxc14_22
                case hyxc14_22 => (go_simp; try with_reducible rfl)
                try simp only [Act.put, List.setIfInBounds_toArray, List.set_cons_zero, List.set_cons_succ]
                refine Left.run (i := 23) rfl (by kernel_rfl) (fun K hK => ?_)
                go_simp
                refine hK.out _ _ (Or.inl (by kernel_rfl)) ?_
                clear hK K
                try simp only [Act.put, List.setIfInBounds_toArray, List.set_cons_zero, List.set_cons_succ]
                refine Left.done (by kernel_rfl) ?_ _
                replace O3 : Hs w0 (((w8.setCell ⟨p, 10, none⟩ (.int .u64 s4.last)).setCell ⟨p, 15, none⟩ (.int .i64 s4.ticks)).setCell ⟨p, 16, none⟩ (.int .i64 s4.ticks)).drew _ := O3.setCell (i := 16) (.int .i64 s4.ticks)
                clear q10 q15 q16 f10 f15 f16 O2 hS
                generalize World.drew _ = w11 at O3 ⊢
                simp only [coCells, List.setIfInBounds_toArray, List.set_cons_zero, List.set_cons_succ] at O3
                have k0 : w11.cell? ⟨bt, 0, none⟩ = some (.pointer (some ⟨p, 0, none⟩)) := O3.at7.cellOf 0 rfl
                have k8 : w11.cell? ⟨p, 8, none⟩ = some (.map (some v.m2)) := O3.cellOf 8 rfl
                obtain ⟨w12, hr2, O4⟩ := O3.at4.mf_clear (P := Try.prog) 48 3 4 0 Try.underlying48
                have O5 := CoV.mk_ (p := p) (v := v) (s := { s4 with under := s4.last, began := s4.ticks, since := s4.ticks, acked := nobody }) O4.at4.at4.at4.at4
                rw [← hs34.out] at O5
                replace O5 := Lib.hid O5
                clear O3 O4
                go_upto_region 16 with (fail)
                clear k0 k8 hr2
                have O6 := Lib.hid O5.out.drew
                clear O5
                refine wp_region_left (S := fun w' : World => w'.cell? ⟨bt, 0, none⟩ = some (.pointer (some ⟨p, 0, none⟩)) ∧ w'.cell? ⟨p, 0, none⟩ = some v.vt ∧ w'.cell? ⟨p, 10, none⟩ = some (.int .u64 s3.under)) 12 mixed ?_
                have hS : (fun w' : World => w'.cell? ⟨bt, 0, none⟩ = some (.pointer (some ⟨p, 0, none⟩)) ∧ w'.cell? ⟨p, 0, none⟩ = some v.vt ∧ w'.cell? ⟨p, 10, none⟩ = some (.int .u64 s3.under)) w12.drew := by exact ⟨O6.out.at2.cellOf 0 rfl, CoV.cell (O6.out) 0 rfl, CoV.cell (O6.out) 10 rfl⟩
                refine Left.pure (i := 0) (v := ?vxc16_0) rfl (by kernel_rfl) (fun _ _ _ h => h) (Or.inr hS) (Or.inl ⟨by rfl, fun w _ => ?hyxc16_0⟩) ?restxc16_0
                case hyxc16_0 => (go_simp; try with_reducible rfl)
                try simp only [Act.put, List.setIfInBounds_toArray, List.set_cons_zero, List.set_cons_succ]
                refine Left.take (i := 1) (v := ?vxc16_1) rfl (by kernel_rfl) (fun _ _ _ h => h) hS (Or.inl ⟨by rfl, fun w hSw => ?hyxc16_1⟩) ?restxc16_1
                case hyxc16_1 => ((try dsimp only at hSw); go_simp; try with_reducible rfl)
                try simp only [Act.put, List.setIfInBounds_toArray, List.set_cons_zero, List.set_cons_succ]
                refine Left.take (i := 2) (v := ?vxc16_2) rfl (by kernel_rfl) (fun _ _ _ h => h) hS (Or.inl ⟨by rfl, fun w hSw => ?hyxc16_2⟩) ?restxc16_2
                case hyxc16_2 => ((try dsimp only at hSw); go_simp; try with_reducible rfl)
                try simp only [Act.put, List.setIfInBounds_toArray, List.set_cons_zero, List.set_cons_succ]
                refine Left.pure (i := 3) (v := ?vxc16_3) rfl (by kernel_rfl) (fun _ _ _ h => h) (Or.inr hS) (Or.inl ⟨by rfl, fun w _ => ?hyxc16_3⟩) ?restxc16_3
                case hyxc16_3 => (go_simp; try with_reducible rfl)
                try simp only [Act.put, List.setIfInBounds_toArray, List.set_cons_zero, List.set_cons_succ]
                refine Left.pure (i := 4) (v := ?vxc16_4) rfl (by kernel_rfl) (fun _ _ _ h => h) (Or.inr hS) (Or.inl ⟨by rfl, fun w _ => ?hyxc16_4⟩) ?restxc16_4
                case hyxc16_4 => (go_simp; try with_reducible rfl)
                try simp only [Act.put, List.setIfInBounds_toArray, List.set_cons_zero, List.set_cons_succ]
                refine Left.take (i := 5) (v := ?vxc16_5) rfl (by kernel_rfl) (fun _ _ _ h => h) hS (Or.inl ⟨by rfl, fun w hSw => ?hyxc16_5⟩) ?restxc16_5
                case hyxc16_5 => ((try dsimp only at hSw); go_simp; try with_reducible rfl)
                try simp only [Act.put, List.setIfInBounds_toArray, List.set_cons_zero, List.set_cons_succ]
                refine Left.take (i := 6) (v := ?vxc16_6) rfl (by kernel_rfl) (fun _ _ _ h => h) hS (Or.inl ⟨by rfl, fun w hSw => ?hyxc16_6⟩) ?restxc16_6
                case hyxc16_6 => ((try dsimp only at hSw); go_simp; try with_reducible rfl)
                try simp only [Act.put, List.setIfInBounds_toArray, List.set_cons_zero, List.set_cons_succ]
                refine Left.pure (i := 7) (v := ?vxc16_7) rfl (by kernel_rfl) (fun _ _ _ h => h) (Or.inr hS) (Or.inl ⟨by rfl, fun w _ => ?hyxc16_7⟩) ?restxc16_7
                case hyxc16_7 => (go_simp; try with_reducible rfl)
                try simp only [Act.put, List.setIfInBounds_toArray, List.set_cons_zero, List.set_cons_succ]
                refine Left.pure (i := 8) (v := ?vxc16_8) rfl (by kernel_rfl) (fun _ _ _ h => h) (Or.inr hS) (Or.inl ⟨by rfl, fun w _ => ?hyxc16_8⟩) ?restxc16_8
                case hyxc16_8 => (go_simp; try with_reducible rfl)
                try simp only [Act.put, List.setIfInBounds_toArray, List.set_cons_zero, List.set_cons_succ]
                refine Left.take (i := 9) (v := ?vxc16_9) rfl (by kernel_rfl) (fun _ _ _ h => h) hS (Or.inl ⟨by rfl, fun w hSw => ?hyxc16_9⟩) ?restxc16_9
                case hyxc16_9 => ((try dsimp only at hSw); go_simp; try with_reducible rfl)
                try simp only [Act.put, List.setIfInBounds_toArray, List.set_cons_zero, List.set_cons_succ]
                refine Left.run (i := 10) rfl (by kernel_rfl) (fun K hK => ?_)
                go_simp
                go_at_call 24
                refine (each_none p bt v s3 v.vt s3.tasks 1 s3.under _ w0 _ O6.out (fun w' h => CoV.tasks h) hte.out (fun w' h => trivial)).mono ?_
                rintro e w14 ⟨A7, c7, rfl, H8⟩
                have hyl : Hid ((s3.tell 1 s3.under s3.tasks nobody).length ≤ 1000) := by show _ ≤ _; unfold Co.tell; rw [List.length_map]; exact Nat.le_trans (List.length_filter_le _ _) hte.out
                have hbd : Hid ((out.length + (s3.tell 1 s3.under s3.tasks nobody).length) * 32 ≤ 140737488355328) := by show _ ≤ _; have := hol.out; have := hyl.out; omega
                obtain ⟨ys, hys⟩ : ∃ ys, s3.tell 1 s3.under s3.tasks nobody = ys := ⟨_, rfl⟩
                rw [hys] at H8 hyl hbd hst ⊢
                replace hys := Lib.hid hys
                replace H8 := Lib.hid H8
                go_simp
                replace hS : (fun w' : World => w'.cell? ⟨bt, 0, none⟩ = some (.pointer (some ⟨p, 0, none⟩)) ∧ w'.cell? ⟨p, 0, none⟩ = some v.vt ∧ w'.cell? ⟨p, 10, none⟩ = some (.int .u64 s3.under)) w14 := by exact ⟨H8.out.at3.cellOf 0 rfl, CoV.cell (H8.out.at1) 0 rfl, CoV.cell (H8.out.at1) 10 rfl⟩
                refine hK.out _ _ (Or.inr hS) ?_
                clear hK K
                try simp only [Act.put, List.setIfInBounds_toArray, List.set_cons_zero, List.set_cons_succ]
                refine Left.run (i := 11) rfl (by kernel_rfl) (fun K hK => ?_)
                simp only [Act.put, List.getElem_toArray, List.getElem_cons_zero, List.getElem_cons_succ, List.setIfInBounds_toArray, List.set_cons_zero, List.set_cons_succ]
                rw [if_pos (by rfl)]
                refine wp_appendL (E := ECtl) (v := .slice Ao out.length co) (.tmp 145) (.tmp 155) 27 (by rfl) 32 _ 4 32 Try.underlying27 infoC rfl (by decide) (by decide) rfl (by rfl) (.slice A7 ys.length c7) (by rfl) H8.out.at2 H8.out.ls_rd hbd.out ?_
                intro A9 c9 w15 H9
                replace hS : (fun w' : World => w'.cell? ⟨bt, 0, none⟩ = some (.pointer (some ⟨p, 0, none⟩)) ∧ w'.cell? ⟨p, 0, none⟩ = some v.vt ∧ w'.cell? ⟨p, 10, none⟩ = some (.int .u64 s3.under)) w15 := by exact ⟨H9.at3.cellOf 0 rfl, CoV.cell (H9.at2) 0 rfl, CoV.cell (H9.at2) 10 rfl⟩
                refine hK.out _ _ (Or.inr hS) ?_
                clear hK K
                try simp only [Act.put, List.setIfInBounds_toArray, List.set_cons_zero, List.set_cons_succ]
                refine Left.run (i := 12) rfl (by kernel_rfl) (fun K hK => ?_)
                go_simp
                refine hK.out _ _ (Or.inl (by kernel_rfl)) ?_
                clear hK K
                try simp only [Act.put, List.setIfInBounds_toArray, List.set_cons_zero, List.set_cons_succ]
                refine Left.done (by kernel_rfl) ?_ _
                rw [← List.length_append] at H9 ⊢
                go_wp2_with fail
                go_ret
                rw [hst.out]
                exact ⟨A9, c9, by first | rfl | (show _ = Ending.returned (Value.slice A9 (out ++ ys).length c9); rw [List.length_append]; rfl), H9.at1.tail.at2.tail⟩
              · have hdb : decide (s2.interval ≤ s2.ticks - s2.since) = false := by rw [decide_eq_false_iff_not]; exact hdue
                have hst : Hid (s.tick = (s2, out)) := by
                  show _ = _
                  rw [hgo.out]
                  unfold Co.go
                  rw [if_neg (by unfold Co.due; rw [hdb, Bool.and_false]; decide), if_neg (by rw [show s2.under = 0 from by simpa using hb10']; simp), ← hout.out]
                clear hdue
                go_wp2_with fail
                go_quiet (fail)
                replace H7 := Lib.hid (H7.out.drewN nq)
                clear q14 q16 q2 k0 q10
                generalize World.drewN w7 nq = w9 at *
                have k0 : w9.cell? ⟨bt, 0, none⟩ = some (.pointer (some ⟨p, 0, none⟩)) := H7.out.at2.cellOf 0 rfl
                have q10 : w9.cell? ⟨p, 10, none⟩ = some (.int .u64 0) := by
                  have := CoV.cell H7.out.at1 10 (u := .int .u64 s2.under) rfl
                  rwa [show s2.under = 0 from by simpa using hb10'] at this
                go_wp2_with fail
                go_ret
                rw [hst.out]
                exact ⟨Ao, co, rfl, H7.out.at2.tail⟩
          · have hlb : decide (s1.limit ≤ s1.ticks - s1.began) = false := by rw [decide_eq_false_iff_not]; exact hlt
            have hlate : s1.late = false := by unfold Co.late; rw [hlb]; simp
            have hst : Hid (s.tick = (s1, out ++ s1.tell 1 s1.under s1.tasks s1.acked)) := by
              show _ = _
              rw [htk2.out false hlate]
              unfold Co.go
              simp only [Bool.false_eq_true, if_false]
              rw [if_neg (by unfold Co.due; rw [hub2]; simp), if_pos (by rw [hub, hsto]; rfl), ← hout.out]
            have hsto' := Lib.hid hsto
            have hte : Hid (s1.tasks.length ≤ 1000) := hlen
            clear htk2 hlate hu hsto hlt
            go_quiet (fail)
            have H7 := Lib.hid (H5.out.drewN nq)
            clear q10 q12 q13 q14 q15 k0 H5
            generalize World.drewN w5 nq = w7 at *
            have q10 : w7.cell? ⟨p, 10, none⟩ = some (.int .u64 s1.under) := CoV.cell H7.out.at1 10 rfl
            have k0 : w7.cell? ⟨bt, 0, none⟩ = some (.pointer (some ⟨p, 0, none⟩)) := H7.out.at2.cellOf 0 rfl
            go_wp2_with fail
            go_quiet (fail)
            replace H7 := Lib.hid (H7.out.drewN nq)
            clear k0 q10
            generalize World.drewN w7 nq = w12 at *
            have k0 : w12.cell? ⟨bt, 0, none⟩ = some (.pointer (some ⟨p, 0, none⟩)) := H7.out.at2.cellOf 0 rfl
            have q10 : w12.cell? ⟨p, 10, none⟩ = some (.int .u64 s1.under) := CoV.cell H7.out.at1 10 rfl
            have q12 : w12.cell? ⟨p, 12, none⟩ = some (.bool false) := by
              have := CoV.cell H7.out.at1 12 (u := .bool s1.stored) rfl
              rwa [hsto'.out] at this
            go_upto_region 18 with (fail)
            clear k0 q10 q12
            have O6 := Lib.hid H7.out.drew.at1
            clear H7
            refine wp_region_left (S := fun w' : World => w'.cell? ⟨bt, 0, none⟩ = some (.pointer (some ⟨p, 0, none⟩)) ∧ w'.cell? ⟨p, 0, none⟩ = some v.vt ∧ w'.cell? ⟨p, 10, none⟩ = some (.int .u64 s1.under)) 13 mixed ?_
            have hS : (fun w' : World => w'.cell? ⟨bt, 0, none⟩ = some (.pointer (some ⟨p, 0, none⟩)) ∧ w'.cell? ⟨p, 0, none⟩ = some v.vt ∧ w'.cell? ⟨p, 10, none⟩ = some (.int .u64 s1.under)) w12.drew := by exact ⟨O6.out.at2.cellOf 0 rfl, CoV.cell (O6.out) 0 rfl, CoV.cell (O6.out) 10 rfl⟩
            refine Left.pure (i := 0) (v := ?vxd18_0) rfl (by kernel_rfl) (fun _ _ _ h => h) (Or.inr hS) (Or.inl ⟨by rfl, fun w _ => ?hyxd18_0⟩) ?restxd18_0
            case hyxd18_0 => (go_simp; try with_reducible rfl)
            try simp only [Act.put, List.setIfInBounds_toArray, List.set_cons_zero, List.set_cons_succ]
            refine Left.take (i := 1) (v := ?vxd18_1) rfl (by kernel_rfl) (fun _ _ _ h => h) hS (Or.inl ⟨by rfl, fun w hSw => ?hyxd18_1⟩) ?restxd18_1
            case hyxd18_1 => ((try dsimp only at hSw); go_simp; try with_reducible rfl)
            try simp only [Act.put, List.setIfInBounds_toArray, List.set_cons_zero, List.set_cons_succ]
            refine Left.take (i := 2) (v := ?vxd18_2) rfl (by kernel_rfl) (fun _ _ _ h => h) hS (Or.inl ⟨by rfl, fun w hSw => ?hyxd18_2⟩) ?restxd18_2
            case hyxd18_2 => ((try dsimp only at hSw); go_simp; try with_reducible rfl)
            try simp only [Act.put, List.setIfInBounds_toArray, List.set_cons_zero, List.set_cons_succ]
            refine Left.pure (i := 3) (v := ?vxd18_3) rfl (by kernel_rfl) (fun _ _ _ h => h) (Or.inr hS) (Or.inl ⟨by rfl, fun w _ => ?hyxd18_3⟩) ?restxd18_3
            case hyxd18_3 => (go_simp; try with_reducible rfl)
            try simp only [Act.put, List.setIfInBounds_toArray, List.set_cons_zero, List.set_cons_succ]
            refine Left.pure (i := 4) (v := ?vxd18_4) rfl (by kernel_rfl) (fun _ _ _ h => h) (Or.inr hS) (Or.inl ⟨by rfl, fun w _ => ?hyxd18_4⟩) ?restxd18_4
            case hyxd18_4 => (go_simp; try with_reducible rfl)
            try simp only [Act.put, List.setIfInBounds_toArray, List.set_cons_zero, List.set_cons_succ]
            refine Left.take (i := 5) (v := ?vxd18_5) rfl (by kernel_rfl) (fun _ _ _ h => h) hS (Or.inl ⟨by rfl, fun w hSw => ?hyxd18_5⟩) ?restxd18_5
            case hyxd18_5 => ((try dsimp only at hSw); go_simp; try with_reducible rfl)
            try simp only [Act.put, List.setIfInBounds_toArray, List.set_cons_zero, List.set_cons_succ]
            refine Left.take (i := 6) (v := ?vxd18_6) rfl (by kernel_rfl) (fun _ _ _ h => h) hS (Or.inl ⟨by rfl, fun w hSw => ?hyxd18_6⟩) ?restxd18_6
            case hyxd18_6 => ((try dsimp only at hSw); go_simp; try with_reducible rfl)
            try simp only [Act.put, List.setIfInBounds_toArray, List.set_cons_zero, List.set_cons_succ]
            refine Left.pure (i := 7) (v := ?vxd18_7) rfl (by kernel_rfl) (fun _ _ _ h => h) (Or.inr hS) (Or.inl ⟨by rfl, fun w _ => ?hyxd18_7⟩) ?restxd18_7
            case hyxd18_7 => (go_simp; try with_reducible rfl)
            try simp only [Act.put, List.setIfInBounds_toArray, List.set_cons_zero, List.set_cons_succ]
            refine Left.pure (i := 8) (v := ?vxd18_8) rfl (by kernel_rfl) (fun _ _ _ h => h) (Or.inr hS) (Or.inl ⟨by rfl, fun w _ => ?hyxd18_8⟩) ?restxd18_8
            case hyxd18_8 => (go_simp; try with_reducible rfl)
            try simp only [Act.put, List.setIfInBounds_toArray, List.set_cons_zero, List.set_cons_succ]
            refine Left.take (i := 9) (v := ?vxd18_9) rfl (by kernel_rfl) (fun _ _ _ h => h) hS (Or.inl ⟨by rfl, fun w hSw => ?hyxd18_9⟩) ?restxd18_9
            case hyxd18_9 => ((try dsimp only at hSw); go_simp; try with_reducible rfl)
            try simp only [Act.put, List.setIfInBounds_toArray, List.set_cons_zero, List.set_cons_succ]
            refine Left.pure (i := 10) (v := ?vxd18_10) rfl (by kernel_rfl) (fun _ _ _ h => h) (Or.inr hS) (Or.inl ⟨by rfl, fun w _ => ?hyxd18_10⟩) ?restxd18_10
            case hyxd18_10 => (go_simp; try with_reducible rfl)
            try simp only [Act.put, List.setIfInBounds_toArray, List.set_cons_zero, List.set_cons_succ]
            refine Left.run (i := 11) rfl (by kernel_rfl) (fun K hK => ?_)
            go_simp
            go_at_call 24
            refine (each_acked p bt v s1 v.vt s1.tasks 1 s1.under _ w0 _ O6.out (fun w' h => CoV.tasks h) hte.out (fun w' h => h.at2.cellOf 0 rfl)).mono ?_
            rintro e w14 ⟨A7, c7, rfl, H8⟩
            have hyl : Hid ((s1.tell 1 s1.under s1.tasks s1.acked).length ≤ 1000) := by show _ ≤ _; unfold Co.tell; rw [List.length_map]; exact Nat.le_trans (List.length_filter_le _ _) hte.out
            have hbd : Hid ((out.length + (s1.tell 1 s1.under s1.tasks s1.acked).length) * 32 ≤ 140737488355328) := by show _ ≤ _; have := hol.out; have := hyl.out; omega
            obtain ⟨ys, hys⟩ : ∃ ys, s1.tell 1 s1.under s1.tasks s1.acked = ys := ⟨_, rfl⟩
            rw [hys] at H8 hyl hbd hst ⊢
            replace hys := Lib.hid hys
            replace H8 := Lib.hid H8
            go_simp
            replace hS : (fun w' : World => w'.cell? ⟨bt, 0, none⟩ = some (.pointer (some ⟨p, 0, none⟩)) ∧ w'.cell? ⟨p, 0, none⟩ = some v.vt ∧ w'.cell? ⟨p, 10, none⟩ = some (.int .u64 s1.under)) w14 := by exact ⟨H8.out.at3.cellOf 0 rfl, CoV.cell (H8.out.at1) 0 rfl, CoV.cell (H8.out.at1) 10 rfl⟩
            refine hK.out _ _ (Or.inr hS) ?_
            clear hK K
            try simp only [Act.put, List.setIfInBounds_toArray, List.set_cons_zero, List.set_cons_succ]
            refine Left.run (i := 12) rfl (by kernel_rfl) (fun K hK => ?_)
            simp only [Act.put, List.getElem_toArray, List.getElem_cons_zero, List.getElem_cons_succ, List.setIfInBounds_toArray, List.set_cons_zero, List.set_cons_succ]
            rw [if_pos (by rfl)]
            refine wp_appendL (E := ECtl) (v := .slice Ao out.length co) (.tmp 170) (.tmp 181) 27 (by rfl) 32 _ 4 32 Try.underlying27 infoC rfl (by decide) (by decide) rfl (by rfl) (.slice A7 ys.length c7) (by rfl) H8.out.at2 H8.out.ls_rd hbd.out ?_
            intro A9 c9 w15 H9
            replace hS : (fun w' : World => w'.cell? ⟨bt, 0, none⟩ = some (.pointer (some ⟨p, 0, none⟩)) ∧ w'.cell? ⟨p, 0, none⟩ = some v.vt ∧ w'.cell? ⟨p, 10, none⟩ = some (.int .u64 s1.under)) w15 := by exact ⟨H9.at3.cellOf 0 rfl, CoV.cell (H9.at2) 0 rfl, CoV.cell (H9.at2) 10 rfl⟩
            refine hK.out _ _ (Or.inr hS) ?_
            clear hK K
            try simp only [Act.put, List.setIfInBounds_toArray, List.set_cons_zero, List.set_cons_succ]
            refine Left.run (i := 13) rfl (by kernel_rfl) (fun K hK => ?_)
            go_simp
            refine hK.out _ _ (Or.inl (by kernel_rfl)) ?_
            clear hK K
            try simp only [Act.put, List.setIfInBounds_toArray, List.set_cons_zero, List.set_cons_succ]
            refine Left.done (by kernel_rfl) ?_ _
            rw [← List.length_append] at H9 ⊢
            go_wp2_with fail
            go_ret
            rw [hst.out]
            exact ⟨A9, c9, by first | rfl | (show _ = Ending.returned (Value.slice A9 (out ++ ys).length c9); rw [List.length_append]; rfl), H9.at1.tail.at2.tail⟩
    · have hdb : (s1.durable != 0) = true := by rw [bne_iff_ne]; exact hd
      have hou' : Hid (s.outs = s1.tell 3 s1.durable s1.sinks s1.committed) := by show _ = _; rw [hou.out, if_neg hd]
      clear hd hou
      go_upto_region 8 with (fail)
      go_still_tail 11, mixed
      change wpList _ _ _ _ _ w4.drew
      have H4' := Lib.hid H4.out.drew
      clear H4 k0 k11 k1 hdb
      generalize w4.drew = w6 at *
      go_wp2_with (go_at_call 24; refine (each_committed p bt v s1 v.vs s1.sinks 3 s1.durable _ w0 _ H4'.out (fun w' h => CoV.sinks h) hlen2 (fun w' h => trivial)).mono ?_)
      rintro e w5 ⟨Ao, co, rfl, H5⟩
      rw [← hou'.out] at H5 ⊢
      have hol : Hid (s.outs.length ≤ 1000) := by
        show _ ≤ _
        rw [hou'.out]
        unfold Co.tell
        rw [List.length_map]
        exact Nat.le_trans (List.length_filter_le _ _) hlen2
      obtain ⟨out, hout⟩ : ∃ out : List Ctl, out = s.outs := ⟨_, rfl⟩
      rw [← hout] at H5 hol ⊢
      replace hout := Lib.hid hout
      replace H5 := Lib.hid H5
      clear H4' hou'
      go_upto_region 9 with (fail)
      have q10 : w5.cell? ⟨p, 10, none⟩ = some (.int .u64 s1.under) := CoV.cell H5.out.at1 10 rfl
      have q12 : w5.cell? ⟨p, 12, none⟩ = some (.bool s1.stored) := CoV.cell H5.out.at1 12 rfl
      have q13 : w5.cell? ⟨p, 13, none⟩ = some (.int .i64 s1.limit) := CoV.cell H5.out.at1 13 rfl
      have q14 : w5.cell? ⟨p, 14, none⟩ = some (.int .i64 s1.ticks) := CoV.cell H5.out.at1 14 rfl
      have q15 : w5.cell? ⟨p, 15, none⟩ = some (.int .i64 s1.began) := CoV.cell H5.out.at1 15 rfl
      have k0 : w5.cell? ⟨bt, 0, none⟩ = some (.pointer (some ⟨p, 0, none⟩)) := H5.out.at2.cellOf 0 rfl
      have htk2 := Lib.hid (fun (b : Bool) (h : s1.late = b) => show s.tick = (if b then s1.quit else s1).go s.outs by rw [← h]; exact htk1.out)
      clear htk1
      by_cases hu : s1.under = 0
      · have hlate : s1.late = false := by unfold Co.late; rw [hu]; rfl
        have hgo : Hid (s.tick = s1.go s.outs) := htk2.out false hlate
        have hb10' : (s1.under == 0) = true := by rw [hu]; rfl
        rw [hu] at q10
        clear htk2 hlate hu
        go_quiet (fail)
        have H7 := Lib.hid (H5.out.drewN nq)
        clear q10 q12 q13 q14 q15 k0 H5
        generalize World.drewN w5 nq = w7 at *
        have q10 : w7.cell? ⟨p, 10, none⟩ = some (.int .u64 s1.under) := CoV.cell H7.out.at1 10 rfl
        have q14 : w7.cell? ⟨p, 14, none⟩ = some (.int .i64 s1.ticks) := CoV.cell H7.out.at1 14 rfl
        have q16 : w7.cell? ⟨p, 16, none⟩ = some (.int .i64 s1.since) := CoV.cell H7.out.at1 16 rfl
        have q2 : w7.cell? ⟨p, 2, none⟩ = some (.int .i64 s1.interval) := CoV.cell H7.out.at1 2 rfl
        rw [show s1.under = 0 from by simpa using hb10'] at q10
        have k0 : w7.cell? ⟨bt, 0, none⟩ = some (.pointer (some ⟨p, 0, none⟩)) := H7.out.at2.cellOf 0 rfl
        by_cases hdue : s1.interval ≤ s1.ticks - s1.since
        · go_wp2_with fail
          go_quiet (fail)
          replace H7 := Lib.hid (H7.out.drewN nq)
          clear q10 q14 q16 q2 k0
          generalize World.drewN w7 nq = w9 at *
          have hst : Hid (s.tick = (s1.start, out ++ s1.start.tell 1 s1.start.under s1.tasks nobody)) := by
            show _ = _
            rw [hgo.out]
            unfold Co.go
            rw [if_pos (by unfold Co.due; rw [hb10']; simpa using hdue), ← hout.out]
          clear hdue
          have k0 : w9.cell? ⟨bt, 0, none⟩ = some (.pointer (some ⟨p, 0, none⟩)) := H7.out.at2.cellOf 0 rfl
          have q6 : w9.cell? ⟨p, 6, none⟩ = some (.int .u64 s1.last) := CoV.cell H7.out.at1 6 rfl
          have f6 := CoV.free H7.out.at1 6
          have O := (CoV.open_ H7.out.at1).setCell (i := 6) (.int .u64 (s1.last + 1))
          have O1 := Lib.hid (CoV.mk_ (p := p) (v := v) (s := { s1 with last := s1.last + 1 }) O)
          clear O
          go_upto_region 14 with (fail)
          clear q6 f6 k0 H7
          generalize World.setCell _ _ _ = w8 at O1 ⊢
          obtain ⟨s4, hs4⟩ : ∃ s4, s4 = { s1 with last := s1.last + 1 } := ⟨_, rfl⟩
          rw [← hs4] at O1
          obtain ⟨s3, hs3⟩ : ∃ s3, s3 = s1.start := ⟨_, rfl⟩
          have hs34 : Hid (s3 = { s4 with under := s4.last, began := s4.ticks, since := s4.ticks, acked := nobody }) := by show _ = _; rw [hs3, hs4]; rfl
          have hst4 : Hid (s3.tasks = s1.tasks) := by show _ = _; rw [hs3]; rfl
          have hte : Hid (s3.tasks.length ≤ 1000) := by show _ ≤ _; rw [hst4.out]; exact hlen
          rw [← hs3, ← hst4.out] at hst
          clear hs3 hs4 hst4
          have O2 := Lib.hid O1.out.drew
          have q10 : w8.cell? ⟨p, 10, none⟩ = some (.int .u64 s4.under) := CoV.cell O1.out 10 rfl
          have q15 : w8.cell? ⟨p, 15, none⟩ = some (.int .i64 s4.began) := CoV.cell O1.out 15 rfl
          have q16 : w8.cell? ⟨p, 16, none⟩ = some (.int .i64 s4.since) := CoV.cell O1.out 16 rfl
          have f10 := CoV.free O1.out 10
          have f15 := CoV.free O1.out 15
          have f16 := CoV.free O1.out 16
          clear O1
          refine wp_region_left (S := fun w' : World => w'.cell? ⟨bt, 0, none⟩ = some (.pointer (some ⟨p, 0, none⟩)) ∧ w'.cell? ⟨p, 6, none⟩ = some (.int .u64 s4.last) ∧ w'.cell? ⟨p, 14, none⟩ = some (.int .i64 s4.ticks)) 23 mixed ?_
          have hS : (fun w' : World => w'.cell? ⟨bt, 0, none⟩ = some (.pointer (some ⟨p, 0, none⟩)) ∧ w'.cell? ⟨p, 6, none⟩ = some (.int .u64 s4.last) ∧ w'.cell? ⟨p, 14, none⟩ = some (.int .i64 s4.ticks)) w8.drew := by exact ⟨O2.out.at2.cellOf 0 rfl, CoV.cell O2.out 6 rfl, CoV.cell O2.out 14 rfl⟩
          refine Left.take (i := 0) (v := ?vya14_0) rfl (by kernel_rfl) (fun _ _ _ h => h) hS (Or.inl ⟨by rfl, fun w hSw => ?hyya14_0⟩) ?restya14_0
          case hyya14_0 => ((try dsimp only at hSw); go_simp; try with_reducible rfl)
          try simp only [Act.put, List.setIfInBounds_toArray, List.set_cons_zero, List.set_cons_succ]
          refine Left.take (i := 1) (v := ?vya14_1) rfl (by kernel_rfl) (fun _ _ _ h => h) hS (Or.inl ⟨by rfl, fun w hSw => ?hyya14_1⟩) ?restya14_1
          case hyya14_1 => ((try dsimp only at hSw); go_simp; try with_reducible rfl)
          try simp only [Act.put, List.setIfInBounds_toArray, List.set_cons_zero, List.set_cons_succ]
          refine Left.take (i := 2) (v := ?vya14_2) rfl (by kernel_rfl) (fun _ _ _ h => h) hS (Or.inl ⟨by rfl, fun w hSw => ?hyya14_2⟩) ?restya14_2
          case hyya14_2 => ((try dsimp only at hSw); go_simp; try with_reducible rfl)
          try simp only [Act.put, List.setIfInBounds_toArray, List.set_cons_zero, List.set_cons_succ]
          refine Left.take (i := 3) (v := ?vya14_3) rfl (by kernel_rfl) (fun _ _ _ h => h) hS (Or.inl ⟨by rfl, fun w hSw => ?hyya14_3⟩) ?restya14_3
          case hyya14_3 => ((try dsimp only at hSw); go_simp; try with_reducible rfl)
          try simp only [Act.put, List.setIfInBounds_toArray, List.set_cons_zero, List.set_cons_succ]
          refine Left.pure (i := 4) (v := ?vya14_4) rfl (by kernel_rfl) (fun _ _ _ h => h) (Or.inr hS) (Or.inl ⟨by rfl, fun w _ => ?hyya14_4⟩) ?restya14_4
          case hyya14_4 => (go_simp; try with_reducible rfl)
          try simp only [Act.put, List.setIfInBounds_toArray, List.set_cons_zero, List.set_cons_succ]
          refine Left.pure (i := 5) (v := ?vya14_5) rfl (by kernel_rfl) (fun _ _ _ h => h) (Or.inr hS) (Or.inl ⟨by rfl, fun w _ => ?hyya14_5⟩) ?restya14_5
          case hyya14_5 => (go_simp; try with_reducible rfl)
          try simp only [Act.put, List.setIfInBounds_toArray, List.set_cons_zero, List.set_cons_succ]
          refine Left.take (i := 6) (v := ?vya14_6) rfl (by kernel_rfl) (fun _ _ _ h => h) hS (Or.inl ⟨by rfl, fun w hSw => ?hyya14_6⟩) ?restya14_6
          case hyya14_6 => ((try dsimp only at hSw); go_simp; try with_reducible rfl)
          try simp only [Act.put, List.setIfInBounds_toArray, List.set_cons_zero, List.set_cons_succ]
          refine Left.take (i := 7) (v := ?vya14_7) rfl (by kernel_rfl) (fun _ _ _ h => h) hS (Or.inl ⟨by rfl, fun w hSw => ?hyya14_7⟩) ?restya14_7
          case hyya14_7 => ((try dsimp only at hSw); go_simp; try with_reducible rfl)
          try simp only [Act.put, List.setIfInBounds_toArray, List.set_cons_zero, List.set_cons_succ]
          refine Left.pure (i := 8) (v := ?vya14_8) rfl (by kernel_rfl) (fun _ _ _ h => h) (Or.inr hS) (Or.inl ⟨by rfl, fun w _ => ?hyya14_8⟩) ?restya14_8
          case hyya14_8 => (go_simp; try with_reducible rfl)
          try simp only [Act.put, List.setIfInBounds_toArray, List.set_cons_zero, List.set_cons_succ]
          refine Left.pure (i := 9) (v := ?vya14_9) rfl (by kernel_rfl) (fun _ _ _ h => h) (Or.inr hS) (Or.inl ⟨by rfl, fun w _ => ?hyya14_9⟩) ?restya14_9
          case hyya14_9 => (go_simp; try with_reducible rfl)
          try simp only [Act.put, List.setIfInBounds_toArray, List.set_cons_zero, List.set_cons_succ]
          refine Left.take (i := 10) (v := ?vya14_10) rfl (by kernel_rfl) (fun _ _ _ h => h) hS (Or.inl ⟨by rfl, fun w hSw => ?hyya14_10⟩) ?restya14_10
          case hyya14_10 => ((try dsimp only at hSw); go_simp; try with_reducible rfl)
          try simp only [Act.put, List.setIfInBounds_toArray, List.set_cons_zero, List.set_cons_succ]
          refine Left.take (i := 11) (v := ?vya14_11) rfl (by kernel_rfl) (fun _ _ _ h => h) hS (Or.inl ⟨by rfl, fun w hSw => ?hyya14_11⟩) ?restya14_11
          case hyya14_11 => ((try dsimp only at hSw); go_simp; try with_reducible rfl)
          try simp only [Act.put, List.setIfInBounds_toArray, List.set_cons_zero, List.set_cons_succ]
          refine Left.pure (i := 12) (v := ?vya14_12) rfl (by kernel_rfl) (fun _ _ _ h => h) (Or.inr hS) (Or.inl ⟨by rfl, fun w _ => ?hyya14_12⟩) ?restya14_12
          case hyya14_12 => (go_simp; try with_reducible rfl)
          try simp only [Act.put, List.setIfInBounds_toArray, List.set_cons_zero, List.set_cons_succ]
          refine Left.pure (i := 13) (v := ?vya14_13) rfl (by kernel_rfl) (fun _ _ _ h => h) (Or.inr hS) (Or.inl ⟨by rfl, fun w _ => ?hyya14_13⟩) ?restya14_13
          case hyya14_13 => (go_simp; try with_reducible rfl)
          try simp only [Act.put, List.setIfInBounds_toArray, List.set_cons_zero, List.set_cons_succ]
          refine Left.take (i := 14) (v := ?vya14_14) rfl (by kernel_rfl) (fun _ _ _ h => h) hS (Or.inl ⟨by rfl, fun w hSw => ?hyya14_14⟩) ?restya14_14
          case hyya14_14 => ((try dsimp only at hSw); go_simp; try with_reducible rfl)
          try simp only [Act.put, List.setIfInBounds_toArray, List.set_cons_zero, List.set_cons_succ]
          refine Left.pure (i := 15) (v := ?vya14_15) rfl (by kernel_rfl) (fun _ _ _ h => h) (Or.inr hS) (Or.inl ⟨by rfl, fun w _ => ?hyya14_15⟩) ?restya14_15
          case hyya14_15 => (go_simp; try with_reducible rfl)
          try simp only [Act.put, List.setIfInBounds_toArray, List.set_cons_zero, List.set_cons_succ]
          refine Left.pure (i := 16) (v := ?vya14_16) rfl (by kernel_rfl) (fun _ _ _ h => h) (Or.inr hS) (Or.inl ⟨by rfl, fun w _ => ?hyya14_16⟩) ?restya14_16
          case hyya14_16 => (go_simp; try with_reducible rfl)
          try simp only [Act.put, List.setIfInBounds_toArray, List.set_cons_zero, List.set_cons_succ]
          refine Left.run (i := 17) rfl (by kernel_rfl) (fun K hK => ?_)
          have O3 := (CoV.open_ O2.out).setCell (i := 10) (.int .u64 s4.last)
          go_simp
          replace hS : (fun w' : World => w'.cell? ⟨bt, 0, none⟩ = some (.pointer (some ⟨p, 0, none⟩)) ∧ w'.cell? ⟨p, 6, none⟩ = some (.int .u64 s4.last) ∧ w'.cell? ⟨p, 14, none⟩ = some (.int .i64 s4.ticks)) (w8.drew.setCell ⟨p, 10, none⟩ (.int .u64 s4.last)) := by exact ⟨O3.at7.cellOf 0 rfl, O3.cellOf 6 rfl, O3.cellOf 14 rfl⟩
          refine hK.out _ _ (Or.inr hS) ?_
          clear hK K
          try simp only [Act.put, List.setIfInBounds_toArray, List.set_cons_zero, List.set_cons_succ]
          refine Left.pure (i := 18) (v := ?vya14_18) rfl (by kernel_rfl) (fun _ _ _ h => h) (Or.inr hS) (Or.inl ⟨by rfl, fun w _ => ?hyya14_18⟩) ?restya14_18
          case hyya14_18 => (go_simp; try with_reducible rfl)
          try simp only [Act.put, List.setIfInBounds_toArray, List.set_cons_zero, List.set_cons_succ]
          refine Left.pure (i := 19) (v := ?vya14_19) rfl (by kernel_rfl) (fun _ _ _ h => h) (Or.inr hS) (Or.inl ⟨by rfl, fun w _ => ?hyya14_19⟩) ?restya14_19
          case hyya14_19 => (go_simp; try with_reducible rfl)
          try simp only [Act.put, List.setIfInBounds_toArray, List.set_cons_zero, List.set_cons_succ]
          refine Left.run (i := 20) rfl (by kernel_rfl) (fun K hK => ?_)
          replace O3 := O3.setCell (i := 15) (.int .i64 s4.ticks)
          go_simp
          replace hS : (fun w' : World => w'.cell? ⟨bt, 0, none⟩ = some (.pointer (some ⟨p, 0, none⟩)) ∧ w'.cell? ⟨p, 6, none⟩ = some (.int .u64 s4.last) ∧ w'.cell? ⟨p, 14, none⟩ = some (.int .i64 s4.ticks)) ((w8.drew.setCell ⟨p, 10, none⟩ (.int .u64 s4.last)).setCell ⟨p, 15, none⟩ (.int .i64 s4.ticks)) := by exact ⟨O3.at7.cellOf 0 rfl, O3.cellOf 6 rfl, O3.cellOf 14 rfl⟩
          refine hK.out _ _ (Or.inr hS) ?_
          clear hK K
          try simp only [Act.put, List.setIfInBounds_toArray, List.set_cons_zero, List.set_cons_succ]
          refine Left.pure (i := 21) (v := ?vya14_21) rfl (by kernel_rfl) (fun _ _ _ h => h) (Or.inr hS) (Or.inl ⟨by rfl, fun w _ => ?hyya14_21⟩) ?restya14_21
          case hyya14_21 => (go_simp; try with_reducible rfl)
          try simp only [Act.put, List.setIfInBounds_toArray, List.set_cons_zero, List.set_cons_succ]
          refine Left.pure (i := 22) (v := ?vya14_22) rfl (by kernel_rfl) (fun _ _ _ h => h) (Or.inr hS) (Or.inl ⟨by rfl, fun w _ => ?hyya14_22⟩) ?restya14_22
          case hyya14_22 => (go_simp; try with_reducible rfl)
          try simp only [Act.put, List.setIfInBounds_toArray, List.set_cons_zero, List.set_cons_succ]
          refine Left.run (i := 23) rfl (by kernel_rfl) (fun K hK => ?_)
          go_simp
          refine hK.out _ _ (Or.inl (by kernel_rfl)) ?_
          clear hK K
          try simp only [Act.put, List.setIfInBounds_toArray, List.set_cons_zero, List.set_cons_succ]
          refine Left.done (by kernel_rfl) ?_ _
          replace O3 : Hs w0 (((w8.setCell ⟨p, 10, none⟩ (.int .u64 s4.last)).setCell ⟨p, 15, none⟩ (.int .i64 s4.ticks)).setCell ⟨p, 16, none⟩ (.int .i64 s4.ticks)).drew _ := O3.setCell (i := 16) (.int .i64 s4.ticks)
          clear q10 q15 q16 f10 f15 f16 O2 hS
          generalize World.drew _ = w11 at O3 ⊢
          simp only [coCells, List.setIfInBounds_toArray, List.set_cons_zero, List.set_cons_succ] at O3
          have k0 : w11.cell? ⟨bt, 0, none⟩ = some (.pointer (some ⟨p, 0, none⟩)) := O3.at7.cellOf 0 rfl
          have k8 : w11.cell? ⟨p, 8, none⟩ = some (.map (some v.m2)) := O3.cellOf 8 rfl
          obtain ⟨w12, hr2, O4⟩ := O3.at4.mf_clear (P := Try.prog) 48 3 4 0 Try.underlying48
          have O5 := CoV.mk_ (p := p) (v := v) (s := { s4 with under := s4.last, began := s4.ticks, since := s4.ticks, acked := nobody }) O4.at4.at4.at4.at4
          rw [← hs34.out] at O5
          replace O5 := Lib.hid O5
          clear O3 O4
          go_upto_region 16 with (fail)
          clear k0 k8 hr2
          have O6 := Lib.hid O5.out.drew
          clear O5
          refine wp_region_left (S := fun w' : World => w'.cell? ⟨bt, 0, none⟩ = some (.pointer (some ⟨p, 0, none⟩)) ∧ w'.cell? ⟨p, 0, none⟩ = some v.vt ∧ w'.cell? ⟨p, 10, none⟩ = some (.int .u64 s3.under)) 12 mixed ?_
          have hS : (fun w' : World => w'.cell? ⟨bt, 0, none⟩ = some (.pointer (some ⟨p, 0, none⟩)) ∧ w'.cell? ⟨p, 0, none⟩ = some v.vt ∧ w'.cell? ⟨p, 10, none⟩ = some (.int .u64 s3.under)) w12.drew := by exact ⟨O6.out.at2.cellOf 0 rfl, CoV.cell (O6.out) 0 rfl, CoV.cell (O6.out) 10 rfl⟩
          refine Left.pure (i := 0) (v := ?vya16_0) rfl (by kernel_rfl) (fun _ _ _ h => h) (Or.inr hS) (Or.inl ⟨by rfl, fun w _ => ?hyya16_0⟩) ?restya16_0
          case hyya16_0 => (go_simp; try with_reducible rfl)
          try simp only [Act.put, List.setIfInBounds_toArray, List.set_cons_zero, List.set_cons_succ]
          refine Left.take (i := 1) (v := ?vya16_1) rfl (by kernel_rfl) (fun _ _ _ h => h) hS (Or.inl ⟨by rfl, fun w hSw => ?hyya16_1⟩) ?restya16_1
          case hyya16_1 => ((try dsimp only at hSw); go_simp; try with_reducible rfl)
          try simp only [Act.put, List.setIfInBounds_toArray, List.set_cons_zero, List.set_cons_succ]
          refine Left.take (i := 2) (v := ?vya16_2) rfl (by kernel_rfl) (fun _ _ _ h => h) hS (Or.inl ⟨by rfl, fun w hSw => ?hyya16_2⟩) ?restya16_2
          case hyya16_2 => ((try dsimp only at hSw); go_simp; try with_reducible rfl)
          try simp only [Act.put, List.setIfInBounds_toArray, List.set_cons_zero, List.set_cons_succ]
          refine Left.pure (i := 3) (v := ?vya16_3) rfl (by kernel_rfl) (fun _ _ _ h => h) (Or.inr hS) (Or.inl ⟨by rfl, fun w _ => ?hyya16_3⟩) ?restya16_3
          case hyya16_3 => (go_simp; try with_reducible rfl)
          try simp only [Act.put, List.setIfInBounds_toArray, List.set_cons_zero, List.set_cons_succ]
          refine Left.pure (i := 4) (v := ?vya16_4) rfl (by kernel_rfl) (fun _ _ _ h => h) (Or.inr hS) (Or.inl ⟨by rfl, fun w _ => ?hyya16_4⟩) ?restya16_4
          case hyya16_4 => (go_simp; try with_reducible rfl)
          try simp only [Act.put, List.setIfInBounds_toArray, List.set_cons_zero, List.set_cons_succ]
          refine Left.take (i := 5) (v := ?vya16_5) rfl (by kernel_rfl) (fun _ _ _ h => h) hS (Or.inl ⟨by rfl, fun w hSw => ?hyya16_5⟩) ?restya16_5
          case hyya16_5 => ((try dsimp only at hSw); go_simp; try with_reducible rfl)
          try simp only [Act.put, List.setIfInBounds_toArray, List.set_cons_zero, List.set_cons_succ]
          refine Left.take (i := 6) (v := ?vya16_6) rfl (by kernel_rfl) (fun _ _ _ h => h) hS (Or.inl ⟨by rfl, fun w hSw => ?hyya16_6⟩) ?restya16_6
          case hyya16_6 => ((try dsimp only at hSw); go_simp; try with_reducible rfl)
          try simp only [Act.put, List.setIfInBounds_toArray, List.set_cons_zero, List.set_cons_succ]
          refine Left.pure (i := 7) (v := ?vya16_7) rfl (by kernel_rfl) (fun _ _ _ h => h) (Or.inr hS) (Or.inl ⟨by rfl, fun w _ => ?hyya16_7⟩) ?restya16_7
          case hyya16_7 => (go_simp; try with_reducible rfl)
          try simp only [Act.put, List.setIfInBounds_toArray, List.set_cons_zero, List.set_cons_succ]
          refine Left.pure (i := 8) (v := ?vya16_8) rfl (by kernel_rfl) (fun _ _ _ h => h) (Or.inr hS) (Or.inl ⟨by rfl, fun w _ => ?hyya16_8⟩) ?restya16_8
          case hyya16_8 => (go_simp; try with_reducible rfl)
          try simp only [Act.put, List.setIfInBounds_toArray, List.set_cons_zero, List.set_cons_succ]
          refine Left.take (i := 9) (v := ?vya16_9) rfl (by kernel_rfl) (fun _ _ _ h => h) hS (Or.inl ⟨by rfl, fun w hSw => ?hyya16_9⟩) ?restya16_9
          case hyya16_9 => ((try dsimp only at hSw); go_simp; try with_reducible rfl)
          try simp only [Act.put, List.setIfInBounds_toArray, List.set_cons_zero, List.set_cons_succ]
          refine Left.run (i := 10) rfl (by kernel_rfl) (fun K hK => ?_)
          go_simp
          go_at_call 24
          refine (each_none p bt v s3 v.vt s3.tasks 1 s3.under _ w0 _ O6.out (fun w' h => CoV.tasks h) hte.out (fun w' h => trivial)).mono ?_
          rintro e w14 ⟨A7, c7, rfl, H8⟩
          have hyl : Hid ((s3.tell 1 s3.under s3.tasks nobody).length ≤ 1000) := by show _ ≤ _; unfold Co.tell; rw [List.length_map]; exact Nat.le_trans (List.length_filter_le _ _) hte.out
          have hbd : Hid ((out.length + (s3.tell 1 s3.under s3.tasks nobody).length) * 32 ≤ 140737488355328) := by show _ ≤ _; have := hol.out; have := hyl.out; omega
          obtain ⟨ys, hys⟩ : ∃ ys, s3.tell 1 s3.under s3.tasks nobody = ys := ⟨_, rfl⟩
          rw [hys] at H8 hyl hbd hst ⊢
          replace hys := Lib.hid hys
          replace H8 := Lib.hid H8
          go_simp
          replace hS : (fun w' : World => w'.cell? ⟨bt, 0, none⟩ = some (.pointer (some ⟨p, 0, none⟩)) ∧ w'.cell? ⟨p, 0, none⟩ = some v.vt ∧ w'.cell? ⟨p, 10, none⟩ = some (.int .u64 s3.under)) w14 := by exact ⟨H8.out.at3.cellOf 0 rfl, CoV.cell (H8.out.at1) 0 rfl, CoV.cell (H8.out.at1) 10 rfl⟩
          refine hK.out _ _ (Or.inr hS) ?_
          clear hK K
          try simp only [Act.put, List.setIfInBounds_toArray, List.set_cons_zero, List.set_cons_succ]
          refine Left.run (i := 11) rfl (by kernel_rfl) (fun K hK => ?_)
          simp only [Act.put, List.getElem_toArray, List.getElem_cons_zero, List.getElem_cons_succ, List.setIfInBounds_toArray, List.set_cons_zero, List.set_cons_succ]
          rw [if_pos (by rfl)]
          refine wp_appendL (E := ECtl) (v := .slice Ao out.length co) (.tmp 145) (.tmp 155) 27 (by rfl) 32 _ 4 32 Try.underlying27 infoC rfl (by decide) (by decide) rfl (by rfl) (.slice A7 ys.length c7) (by rfl) H8.out.at2 H8.out.ls_rd hbd.out ?_
          intro A9 c9 w15 H9
          replace hS : (fun w' : World => w'.cell? ⟨bt, 0, none⟩ = some (.pointer (some ⟨p, 0, none⟩)) ∧ w'.cell? ⟨p, 0, none⟩ = some v.vt ∧ w'.cell? ⟨p, 10, none⟩ = some (.int .u64 s3.under)) w15 := by exact ⟨H9.at3.cellOf 0 rfl, CoV.cell (H9.at2) 0 rfl, CoV.cell (H9.at2) 10 rfl⟩
          refine hK.out _ _ (Or.inr hS) ?_
          clear hK K
          try simp only [Act.put, List.setIfInBounds_toArray, List.set_cons_zero, List.set_cons_succ]
          refine Left.run (i := 12) rfl (by kernel_rfl) (fun K hK => ?_)
          go_simp
          refine hK.out _ _ (Or.inl (by kernel_rfl)) ?_
          clear hK K
          try simp only [Act.put, List.setIfInBounds_toArray, List.set_cons_zero, List.set_cons_succ]
          refine Left.done (by kernel_rfl) ?_ _
          rw [← List.length_append] at H9 ⊢
          go_wp2_with fail
          go_ret
          rw [hst.out]
          exact ⟨A9, c9, by first | rfl | (show _ = Ending.returned (Value.slice A9 (out ++ ys).length c9); rw [List.length_append]; rfl), H9.at1.tail.at2.tail⟩
        · have hdb : decide (s1.interval ≤ s1.ticks - s1.since) = false := by rw [decide_eq_false_iff_not]; exact hdue
          have hst : Hid (s.tick = (s1, out)) := by
            show _ = _
            rw [hgo.out]
            unfold Co.go
            rw [if_neg (by unfold Co.due; rw [hdb, Bool.and_false]; decide), if_neg (by rw [show s1.under = 0 from by simpa using hb10']; simp), ← hout.out]
          clear hdue
          go_wp2_with fail
          go_quiet (fail)
          replace H7 := Lib.hid (H7.out.drewN nq)
          clear q14 q16 q2 k0 q10
          generalize World.drewN w7 nq = w9 at *
          have k0 : w9.cell? ⟨bt, 0, none⟩ = some (.pointer (some ⟨p, 0, none⟩)) := H7.out.at2.cellOf 0 rfl
          have q10 : w9.cell? ⟨p, 10, none⟩ = some (.int .u64 0) := by
            have := CoV.cell H7.out.at1 10 (u := .int .u64 s1.under) rfl
            rwa [show s1.under = 0 from by simpa using hb10'] at this
          go_wp2_with fail
          go_ret
          rw [hst.out]
          exact ⟨Ao, co, rfl, H7.out.at2.tail⟩
      · have hub : (s1.under != 0) = true := by rw [bne_iff_ne]; exact hu
        have hub2 : (s1.under == 0) = false := by rw [beq_eq_false_iff_ne]; exact hu
        cases hsto : s1.stored with
        | true =>
          rw [hsto] at q12
          have hlate : s1.late = false := by unfold Co.late; rw [hsto]; simp
          have hst : Hid (s.tick = (s1, out)) := by
            show _ = _
            rw [htk2.out false hlate]
            unfold Co.go
            simp only [Bool.false_eq_true, if_false]
            rw [if_neg (by unfold Co.due; rw [hub2]; simp), if_neg (by rw [hsto]; simp), ← hout.out]
          have hsto' := Lib.hid hsto
          clear htk2 hlate hu hsto
          go_quiet (fail)
          have H7 := Lib.hid (H5.out.drewN nq)
          clear q10 q12 q13 q14 q15 k0 H5
          generalize World.drewN w5 nq = w7 at *
          have q10 : w7.cell? ⟨p, 10, none⟩ = some (.int .u64 s1.under) := CoV.cell H7.out.at1 10 rfl
          have k0 : w7.cell? ⟨bt, 0, none⟩ = some (.pointer (some ⟨p, 0, none⟩)) := H7.out.at2.cellOf 0 rfl
          go_wp2_with fail
          go_quiet (fail)
          replace H7 := Lib.hid (H7.out.drewN nq)
          clear k0 q10
          generalize World.drewN w7 nq = w9 at *
          have k0 : w9.cell? ⟨bt, 0, none⟩ = some (.pointer (some ⟨p, 0, none⟩)) := H7.out.at2.cellOf 0 rfl
          have q10 : w9.cell? ⟨p, 10, none⟩ = some (.int .u64 s1.under) := CoV.cell H7.out.at1 10 rfl
          have q12 : w9.cell? ⟨p, 12, none⟩ = some (.bool true) := by
            have := CoV.cell H7.out.at1 12 (u := .bool s1.stored) rfl
            rwa [hsto'.out] at this
          go_wp2_with fail
          go_ret
          rw [hst.out]
          exact ⟨Ao, co, rfl, H7.out.at2.tail⟩
        | false =>
          rw [hsto] at q12
          by_cases hlt : s1.limit ≤ s1.ticks - s1.began
          · have hlate : s1.late = true := by unfold Co.late; rw [hsto, hub, decide_eq_true hlt]; rfl
            have hgo : Hid (s.tick = s1.quit.go s.outs) := htk2.out true hlate
            clear htk2 hlate hu hsto
            go_quiet (fail)
            have H7 := Lib.hid (H5.out.drewN nq)
            clear q10 q12 q13 q14 q15 k0 H5 hlt
            generalize World.drewN w5 nq = w7 at *
            have k0 : w7.cell? ⟨bt, 0, none⟩ = some (.pointer (some ⟨p, 0, none⟩)) := H7.out.at2.cellOf 0 rfl
            have q10 : w7.cell? ⟨p, 10, none⟩ = some (.int .u64 s1.under) := CoV.cell H7.out.at1 10 rfl
            have f10 := CoV.free H7.out.at1 10
            have O := (CoV.open_ H7.out.at1).setCell (i := 10) (.int .u64 0)
            have O1 := Lib.hid (CoV.mk_ (p := p) (v := v) (s := { s1 with under := 0 }) O)
            clear O
            go_upto_region 11 with (fail)
            clear q10 f10 k0 H7
            generalize World.setCell _ _ _ = w8 at O1 ⊢
            have k0 : w8.cell? ⟨bt, 0, none⟩ = some (.pointer (some ⟨p, 0, none⟩)) := O1.out.at2.cellOf 0 rfl
            have q13 : w8.cell? ⟨p, 13, none⟩ = some (.int .i64 s1.limit) := CoV.cell O1.out 13 rfl
            have f13 := CoV.free O1.out 13
            go_still_tail 7, mixed
            change wpList _ _ _ _ _ w8.drew
            have O2 := Lib.hid O1.out.drew
            clear k0 O1 q13 f13
            generalize w8.drew = w10 at *
            have q13 : w10.cell? ⟨p, 13, none⟩ = some (.int .i64 s1.limit) := CoV.cell O2.out 13 rfl
            have f13 := CoV.free O2.out 13
            obtain ⟨lm, hlm⟩ : ∃ lm, min (2 * s1.limit) 1048576 = lm := ⟨_, rfl⟩
            have O3 := (CoV.open_ O2.out).setCell (i := 13) (.int .i64 lm)
            obtain ⟨s2, hs2⟩ : ∃ s2, s2 = s1.quit := ⟨_, rfl⟩
            have O4 := CoV.mk_ (p := p) (v := v) (s := { s1 with under := 0, limit := lm }) O3
            have hq : ({ s1 with under := 0, limit := lm } : Co) = s2 := by rw [hs2, ← hlm]; rfl
            rw [hq] at O4
            clear hq
            have O5 := Lib.hid O4.at1
            rw [← hs2] at hgo
            have hq1 : s2.ticks = s1.ticks ∧ s2.since = s1.since ∧ s2.last = s1.last ∧ s2.tasks = s1.tasks ∧ s2.under = 0 := by rw [hs2]; exact ⟨rfl, rfl, rfl, rfl, rfl⟩
            rw [← hq1.1, ← hq1.2.1] at hw2
            rw [← hq1.2.2.1] at hw4
            rw [← hq1.2.2.2.1] at hlen
            have hb10' : (s2.under == 0) = true := by rw [hq1.2.2.2.2]; rfl
            clear O3 O4 hs2 hq1 hub hub2
            rcases Int.lt_or_le 1048576 (2 * s1.limit) with hm | hm
            · have hl2 : lm = 1048576 := by omega
              subst hl2
              have hm1 : ¬ 2 * s1.limit < 1048576 := by omega
              clear hlm
              go_upto_region 12 with (fail)
              clear q13 f13 O2
              generalize World.setCell _ _ _ = w7 at O5 ⊢
              have H7 := O5
              clear O5
              have q10 : w7.cell? ⟨p, 10, none⟩ = some (.int .u64 s2.under) := CoV.cell H7.out.at1 10 rfl
              have q14 : w7.cell? ⟨p, 14, none⟩ = some (.int .i64 s2.ticks) := CoV.cell H7.out.at1 14 rfl
              have q16 : w7.cell? ⟨p, 16, none⟩ = some (.int .i64 s2.since) := CoV.cell H7.out.at1 16 rfl
              have q2 : w7.cell? ⟨p, 2, none⟩ = some (.int .i64 s2.interval) := CoV.cell H7.out.at1 2 rfl
              rw [show s2.under = 0 from by simpa using hb10'] at q10
              have k0 : w7.cell? ⟨bt, 0, none⟩ = some (.pointer (some ⟨p, 0, none⟩)) := H7.out.at2.cellOf 0 rfl
              by_cases hdue : s2.interval ≤ s2.ticks - s2.since
              · go_wp2_with fail
                go_quiet (fail)
                replace H7 := Lib.hid (H7.out.drewN nq)
                clear q10 q14 q16 q2 k0
                generalize World.drewN w7 nq = w9 at *
                have hst : Hid (s.tick = (s2.start, out ++ s2.start.tell 1 s2.start.under s2.tasks nobody)) := by
                  show _ = _
                  rw [hgo.out]
                  unfold Co.go
                  rw [if_pos (by unfold Co.due; rw [hb10']; simpa using hdue), ← hout.out]
                clear hdue
                have k0 : w9.cell? ⟨bt, 0, none⟩ = some (.pointer (some ⟨p, 0, none⟩)) := H7.out.at2.cellOf 0 rfl
                have q6 : w9.cell? ⟨p, 6, none⟩ = some (.int .u64 s2.last) := CoV.cell H7.out.at1 6 rfl
                have f6 := CoV.free H7.out.at1 6
                have O := (CoV.open_ H7.out.at1).setCell (i := 6) (.int .u64 (s2.last + 1))
                have O1 := Lib.hid (CoV.mk_ (p := p) (v := v) (s := { s2 with last := s2.last + 1 }) O)
                clear O
                go_upto_region 14 with (fail)
                clear q6 f6 k0 H7
                generalize World.setCell _ _ _ = w8 at O1 ⊢
                obtain ⟨s4, hs4⟩ : ∃ s4, s4 = { s2 with last := s2.last + 1 } := ⟨_, rfl⟩
                rw [← hs4] at O1
                obtain ⟨s3, hs3⟩ : ∃ s3, s3 = s2.start := ⟨_, rfl⟩
                have hs34 : Hid (s3 = { s4 with under := s4.last, began := s4.ticks, since := s4.ticks, acked := nobody }) := by show _ = _; rw [hs3, hs4]; rfl
                have hst4 : Hid (s3.tasks = s2.tasks) := by show _ = _; rw [hs3]; rfl
                have hte : Hid (s3.tasks.length ≤ 1000) := by show _ ≤ _; rw [hst4.out]; exact hlen
                rw [← hs3, ← hst4.out] at hst
                clear hs3 hs4 hst4
                have O2 := Lib.hid O1.out.drew
                have q10 : w8.cell? ⟨p, 10, none⟩ = some (.int .u64 s4.under) := CoV.cell O1.out 10 rfl
                have q15 : w8.cell? ⟨p, 15, none⟩ = some (.int .i64 s4.began) := CoV.cell O1.out 15 rfl
                have q16 : w8.cell? ⟨p, 16, none⟩ = some (.int .i64 s4.since) := CoV.cell O1.out 16 rfl
                have f10 := CoV.free O1.out 10
                have f15 := CoV.free O1.out 15
                have f16 := CoV.free O1.out 16
                clear O1
                refine wp_region_left (S := fun w' : World => w'.cell? ⟨bt, 0, none⟩ = some (.pointer (some ⟨p, 0, none⟩)) ∧ w'.cell? ⟨p, 6, none⟩ = some (.int .u64 s4.last) ∧ w'.cell? ⟨p, 14, none⟩ = some (.int .i64 s4.ticks)) 23 mixed ?_
                have hS : (fun w' : World => w'.cell? ⟨bt, 0, none⟩ = some (.pointer (some ⟨p, 0, none⟩)) ∧ w'.cell? ⟨p, 6, none⟩ = some (.int .u64 s4.last) ∧ w'.cell? ⟨p, 14, none⟩ = some (.int .i64 s4.ticks)) w8.drew := by exact ⟨O2.out.at2.cellOf 0 rfl, CoV.cell O2.out 6 rfl, CoV.cell O2.out 14 rfl⟩
                refine Left.take (i := 0) (v := ?vyb14_0) rfl (by kernel_rfl) (fun _ _ _ h => h) hS (Or.inl ⟨by rfl, fun w hSw => ?hyyb14_0⟩) ?restyb14_0
                case hyyb14_0 => ((try dsimp only at hSw); go_simp; try with_reducible rfl)
                try simp only [Act.put, List.setIfInBounds_toArray, List.set_cons_zero, List.set_cons_succ]
                refine Left.take (i := 1) (v := ?vyb14_1) rfl (by kernel_rfl) (fun _ _ _ h => h) hS (Or.inl ⟨by rfl, fun w hSw => ?hyyb14_1⟩) ?restyb14_1
                case hyyb14_1 => ((try dsimp only at hSw); go_simp; try with_reducible rfl)
                try simp only [Act.put, List.setIfInBounds_toArray, List.set_cons_zero, List.set_cons_succ]
                refine Left.take (i := 2) (v := ?vyb14_2) rfl (by kernel_rfl) (fun _ _ _ h => h) hS (Or.inl ⟨by rfl, fun w hSw => ?hyyb14_2⟩) ?restyb14_2
                case hyyb14_2 => ((try dsimp only at hSw); go_simp; try with_reducible rfl)
                try simp only [Act.put, List.setIfInBounds_toArray, List.set_cons_zero, List.set_cons_succ]
                refine Left.take (i := 3) (v := ?vyb14_3) rfl (by kernel_rfl) (fun _ _ _ h => h) hS (Or.inl ⟨by rfl, fun w hSw => ?hyyb14_3⟩) ?restyb14_3
                case hyyb14_3 => ((try dsimp only at hSw); go_simp; try with_reducible rfl)
                try simp only [Act.put, List.setIfInBounds_toArray, List.set_cons_zero, List.set_cons_succ]
                refine Left.pure (i := 4) (v := ?vyb14_4) rfl (by kernel_rfl) (fun _ _ _ h => h) (Or.inr hS) (Or.inl ⟨by rfl, fun w _ => ?hyyb14_4⟩) ?restyb14_4
                case hyyb14_4 => (go_simp; try with_reducible rfl)
                try simp only [Act.put, List.setIfInBounds_toArray, List.set_cons_zero, List.set_cons_succ]
                refine Left.pure (i := 5) (v := ?vyb14_5) rfl (by kernel_rfl) (fun _ _ _ h => h) (Or.inr hS) (Or.inl ⟨by rfl, fun w _ => ?hyyb14_5⟩) ?restyb14_5
                case hyyb14_5 => (go_simp; try with_reducible rfl)
                try simp only [Act.put, List.setIfInBounds_toArray, List.set_cons_zero, List.set_cons_succ]
                refine Left.take (i := 6) (v := ?vyb14_6) rfl (by kernel_rfl) (fun _ _ _ h => h) hS (Or.inl ⟨by rfl, fun w hSw => ?hyyb14_6⟩) ?restyb14_6
                case hyyb14_6 => ((try dsimp only at hSw); go_simp; try with_reducible rfl)
                try simp only [Act.put, List.setIfInBounds_toArray, List.set_cons_zero, List.set_cons_succ]
                refine Left.take (i := 7) (v := ?vyb14_7) rfl (by kernel_rfl) (fun _ _ _ h => h) hS (Or.inl ⟨by rfl, fun w hSw => ?hyyb14_7⟩) ?restyb14_7
                case hyyb14_7 => ((try dsimp only at hSw); go_simp; try with_reducible rfl)
                try simp only [Act.put, List.setIfInBounds_toArray, List.set_cons_zero, List.set_cons_succ]
                refine Left.pure (i := 8) (v := ?vyb14_8) rfl (by kernel_rfl) (fun _ _ _ h => h) (Or.inr hS) (Or.inl ⟨by rfl, fun w _ => ?hyyb14_8⟩) ?restyb14_8
                case hyyb14_8 => (go_simp; try with_reducible rfl)
                try simp only [Act.put, List.setIfInBounds_toArray, List.set_cons_zero, List.set_cons_succ]
                refine Left.pure (i := 9) (v := ?vyb14_9) rfl (by kernel_rfl) (fun _ _ _ h => h) (Or.inr hS) (Or.inl ⟨by rfl, fun w _ => ?hyyb14_9⟩) ?restyb14_9
                case hyyb14_9 => (go_simp; try with_reducible rfl)
                try simp only [Act.put, List.setIfInBounds_toArray, List.set_cons_zero, List.set_cons_succ]
                refine Left.take (i := 10) (v := ?vyb14_10) rfl (by kernel_rfl) (fun _ _ _ h => h) hS (Or.inl ⟨by rfl, fun w hSw => ?hyyb14_10⟩) ?restyb14_10
                case hyyb14_10 => ((try dsimp only at hSw); go_simp; try with_reducible rfl)
                try simp only [Act.put, List.setIfInBounds_toArray, List.set_cons_zero, List.set_cons_succ]
                refine Left.take (i := 11) (v := ?vyb14_11) rfl (by kernel_rfl) (fun _ _ _ h => h) hS (Or.inl ⟨by rfl, fun w hSw => ?hyyb14_11⟩) ?restyb14_11
                case hyyb14_11 => ((try dsimp only at hSw); go_simp; try with_reducible rfl)
                try simp only [Act.put, List.setIfInBounds_toArray, List.set_cons_zero, List.set_cons_succ]
                refine Left.pure (i := 12) (v := ?vyb14_12) rfl (by kernel_rfl) (fun _ _ _ h => h) (Or.inr hS) (Or.inl ⟨by rfl, fun w _ => ?hyyb14_12⟩) ?restyb14_12
                case hyyb14_12 => (go_simp; try with_reducible rfl)
                try simp only [Act.put, List.setIfInBounds_toArray, List.set_cons_zero, List.set_cons_succ]
                refine Left.pure (i := 13) (v := ?vyb14_13) rfl (by kernel_rfl) (fun _ _ _ h => h) (Or.inr hS) (Or.inl ⟨by rfl, fun w _ => ?hyyb14_13⟩) ?restyb14_13
                case hyyb14_13 => (go_simp; try with_reducible rfl)
                try simp only [Act.put, List.setIfInBounds_toArray, List.set_cons_zero, List.set_cons_succ]
                refine Left.take (i := 14) (v := ?vyb14_14) rfl (by kernel_rfl) (fun _ _ _ h => h) hS (Or.inl ⟨by rfl, fun w hSw => ?hyyb14_14⟩) ?restyb14_14
                case hyyb14_14 => ((try dsimp only at hSw); go_simp; try with_reducible rfl)
                try simp only [Act.put, List.setIfInBounds_toArray, List.set_cons_zero, List.set_cons_succ]
                refine Left.pure (i := 15) (v := ?vyb14_15) rfl (by kernel_rfl) (fun _ _ _ h => h) (Or.inr hS) (Or.inl ⟨by rfl, fun w _ => ?hyyb14_15⟩) ?restyb14_15
                case hyyb14_15 => (go_simp; try with_reducible rfl)
                try simp only [Act.put, List.setIfInBounds_toArray, List.set_cons_zero, List.set_cons_succ]
                refine Left.pure (i := 16) (v := ?vyb14_16) rfl (by kernel_rfl) (fun _ _ _ h => h) (Or.inr hS) (Or.inl ⟨by rfl, fun w _ => ?hyyb14_16⟩) ?restyb14_16
                case hyyb14_16 => (go_simp; try with_reducible rfl)
                try simp only [Act.put, List.setIfInBounds_toArray, List.set_cons_zero, List.set_cons_succ]
                refine Left.run (i := 17) rfl (by kernel_rfl) (fun K hK => ?_)
                have O3 := (CoV.open_ O2.out).setCell (i := 10) (.int .u64 s4.last)
                go_simp
                replace hS : (fun w' : World => w'.cell? ⟨bt, 0, none⟩ = some (.pointer (some ⟨p, 0, none⟩)) ∧ w'.cell? ⟨p, 6, none⟩ = some (.int .u64 s4.last) ∧ w'.cell? ⟨p, 14, none⟩ = some (.int .i64 s4.ticks)) (w8.drew.setCell ⟨p, 10, none⟩ (.int .u64 s4.last)) := by exact ⟨O3.at7.cellOf 0 rfl, O3.cellOf 6 rfl, O3.cellOf 14 rfl⟩
                refine hK.out _ _ (Or.inr hS) ?_
                clear hK K
                try simp only [Act.put, List.setIfInBounds_toArray, List.set_cons_zero, List.set_cons_succ]
                refine Left.pure (i := 18) (v := ?vyb14_18) rfl (by kernel_rfl) (fun _ _ _ h => h) (Or.inr hS) (Or.inl ⟨by rfl, fun w _ => ?hyyb14_18⟩) ?restyb14_18
                case hyyb14_18 => (go_simp; try with_reducible rfl)
                try simp only [Act.put, List.setIfInBounds_toArray, List.set_cons_zero, List.set_cons_succ]
                refine Left.pure (i := 19) (v := ?vyb14_19) rfl (by kernel_rfl) (fun _ _ _ h => h) (Or.inr hS) (Or.inl ⟨by rfl, fun w _ => ?hyyb14_19⟩) ?restyb14_19
                case hyyb14_19 => (go_simp; try with_reducible rfl)
                try simp only [Act.put, List.setIfInBounds_toArray, List.set_cons_zero, List.set_cons_succ]
                refine Left.run (i := 20) rfl (by kernel_rfl) (fun K hK => ?_)
                replace O3 := O3.setCell (i := 15) (.int .i64 s4.ticks)
                go_simp
                replace hS : (fun w' : World => w'.cell? ⟨bt, 0, none⟩ = some (.pointer (some ⟨p, 0, none⟩)) ∧ w'.cell? ⟨p, 6, none⟩ = some (.int .u64 s4.last) ∧ w'.cell? ⟨p, 14, none⟩ = some (.int .i64 s4.ticks)) ((w8.drew.setCell ⟨p, 10, none⟩ (.int .u64 s4.last)).setCell ⟨p, 15, none⟩ (.int .i64 s4.ticks)) := by exact ⟨O3.at7.cellOf 0 rfl, O3.cellOf 6 rfl, O3.cellOf 14 rfl⟩
                refine hK.out _ _ (Or.inr hS) ?_
                clear hK K
                try simp only [Act.put, List.setIfInBounds_toArray, List.set_cons_zero, List.set_cons_succ]
                refine Left.pure (i := 21) (v := ?vyb14_21) rfl (by kernel_rfl) (fun _ _ _ h => h) (Or.inr hS) (Or.inl ⟨by rfl, fun w _ => ?hyyb14_21⟩) ?restyb14_21
                case hyyb14_21 => (go_simp; try with_reducible rfl)
                try simp only [Act.put, List.setIfInBounds_toArray, List.set_cons_zero, List.set_cons_succ]
                refine Left.pure (i := 22) (v := ?vyb14_22) rfl (by kernel_rfl) (fun _ _ _ h => h) (Or.inr hS) (Or.inl ⟨by rfl, fun w _ => ?hyyb14_22⟩) ?restyb14_22
                case hyyb14_22 => (go_simp; try with_reducible rfl)
                try simp only [Act.put, List.setIfInBounds_toArray, List.set_cons_zero, List.set_cons_succ]
                refine Left.run (i := 23) rfl (by kernel_rfl) (fun K hK => ?_)
                go_simp
                refine hK.out _ _ (Or.inl (by kernel_rfl)) ?_
                clear hK K
                try simp only [Act.put, List.setIfInBounds_toArray, List.set_cons_zero, List.set_cons_succ]
                refine Left.done (by kernel_rfl) ?_ _
                replace O3 : Hs w0 (((w8.setCell ⟨p, 10, none⟩ (.int .u64 s4.last)).setCell ⟨p, 15, none⟩ (.int .i64 s4.ticks)).setCell ⟨p, 16, none⟩ (.int .i64 s4.ticks)).drew _ := O3.setCell (i := 16) (.int .i64 s4.ticks)
                clear q10 q15 q16 f10 f15 f16 O2 hS
                generalize World.drew _ = w11 at O3 ⊢
                simp only [coCells, List.setIfInBounds_toArray, List.set_cons_zero, List.set_cons_succ] at O3
                have k0 : w11.cell? ⟨bt, 0, none⟩ = some (.pointer (some ⟨p, 0, none⟩)) := O3.at7.cellOf 0 rfl
                have k8 : w11.cell? ⟨p, 8, none⟩ = some (.map (some v.m2)) := O3.cellOf 8 rfl
                obtain ⟨w12, hr2, O4⟩ := O3.at4.mf_clear (P := Try.prog) 48 3 4 0 Try.underlying48
                have O5 := CoV.mk_ (p := p) (v := v) (s := { s4 with under := s4.last, began := s4.ticks, since := s4.ticks, acked := nobody }) O4.at4.at4.at4.at4
                rw [← hs34.out] at O5
                replace O5 := Lib.hid O5
                clear O3 O4
                go_upto_region 16 with (fail)
                clear k0 k8 hr2
                have O6 := Lib.hid O5.out.drew
                clear O5
                refine wp_region_left (S := fun w' : World => w'.cell? ⟨bt, 0, none⟩ = some (.pointer (some ⟨p, 0, none⟩)) ∧ w'.cell? ⟨p, 0, none⟩ = some v.vt ∧ w'.cell? ⟨p, 10, none⟩ = some (.int .u64 s3.under)) 12 mixed ?_
                have hS : (fun w' : World => w'.cell? ⟨bt, 0, none⟩ = some (.pointer (some ⟨p, 0, none⟩)) ∧ w'.cell? ⟨p, 0, none⟩ = some v.vt ∧ w'.cell? ⟨p, 10, none⟩ = some (.int .u64 s3.under)) w12.drew := by exact ⟨O6.out.at2.cellOf 0 rfl, CoV.cell (O6.out) 0 rfl, CoV.cell (O6.out) 10 rfl⟩
                refine Left.pure (i := 0) (v := ?vyb16_0) rfl (by kernel_rfl) (fun _ _ _ h => h) (Or.inr hS) (Or.inl ⟨by rfl, fun w _ => ?hyyb16_0⟩) ?restyb16_0
                case hyyb16_0 => (go_simp; try with_reducible rfl)
                try simp only [Act.put, List.setIfInBounds_toArray, List.set_cons_zero, List.set_cons_succ]
                refine Left.take (i := 1) (v := ?vyb16_1) rfl (by kernel_rfl) (fun _ _ _ h => h) hS (Or.inl ⟨by rfl, fun w hSw => ?hyyb16_1⟩) ?restyb16_1
                case hyyb16_1 => ((try dsimp only at hSw); go_simp; try with_reducible rfl)
                try simp only [Act.put, List.setIfInBounds_toArray, List.set_cons_zero, List.set_cons_succ]
                refine Left.take (i := 2) (v := ?vyb16_2) rfl (by kernel_rfl) (fun _ _ _ h => h) hS (Or.inl ⟨by rfl, fun w hSw => ?hyyb16_2⟩) ?restyb16_2
                case hyyb16_2 => ((try dsimp only at hSw); go_simp; try with_reducible rfl)
                try simp only [Act.put, List.setIfInBounds_toArray, List.set_cons_zero, List.set_cons_succ]
                refine Left.pure (i := 3) (v := ?vyb16_3) rfl (by kernel_rfl) (fun _ _ _ h => h) (Or.inr hS) (Or.inl ⟨by rfl, fun w _ => ?hyyb16_3⟩) ?restyb16_3
                case hyyb16_3 => (go_simp; try with_reducible rfl)
                try simp only [Act.put, List.setIfInBounds_toArray, List.set_cons_zero, List.set_cons_succ]
                refine Left.pure (i := 4) (v := ?vyb16_4) rfl (by kernel_rfl) (fun _ _ _ h => h) (Or.inr hS) (Or.inl ⟨by rfl, fun w _ => ?hyyb16_4⟩) ?restyb16_4
                case hyyb16_4 => (go_simp; try with_reducible rfl)
                try simp only [Act.put, List.setIfInBounds_toArray, List.set_cons_zero, List.set_cons_succ]
                refine Left.take (i := 5) (v := ?vyb16_5) rfl (by kernel_rfl) (fun _ _ _ h => h) hS (Or.inl ⟨by rfl, fun w hSw => ?hyyb16_5⟩) ?restyb16_5
                case hyyb16_5 => ((try dsimp only at hSw); go_simp; try with_reducible rfl)
                try simp only [Act.put, List.setIfInBounds_toArray, List.set_cons_zero, List.set_cons_succ]
                refine Left.take (i := 6) (v := ?vyb16_6) rfl (by kernel_rfl) (fun _ _ _ h => h) hS (Or.inl ⟨by rfl, fun w hSw => ?hyyb16_6⟩) ?restyb16_6
                case hyyb16_6 => ((try dsimp only at hSw); go_simp; try with_reducible rfl)
                try simp only [Act.put, List.setIfInBounds_toArray, List.set_cons_zero, List.set_cons_succ]
                refine Left.pure (i := 7) (v := ?vyb16_7) rfl (by kernel_rfl) (fun _ _ _ h => h) (Or.inr hS) (Or.inl ⟨by rfl, fun w _ => ?hyyb16_7⟩) ?restyb16_7
                case hyyb16_7 => (go_simp; try with_reducible rfl)
                try simp only [Act.put, List.setIfInBounds_toArray, List.set_cons_zero, List.set_cons_succ]
                refine Left.pure (i := 8) (v := ?vyb16_8) rfl (by kernel_rfl) (fun _ _ _ h => h) (Or.inr hS) (Or.inl ⟨by rfl, fun w _ => ?hyyb16_8⟩) ?restyb16_8
                case hyyb16_8 => (go_simp; try with_reducible rfl)
                try simp only [Act.put, List.setIfInBounds_toArray, List.set_cons_zero, List.set_cons_succ]
                refine Left.take (i := 9) (v := ?vyb16_9) rfl (by kernel_rfl) (fun _ _ _ h => h) hS (Or.inl ⟨by rfl, fun w hSw => ?hyyb16_9⟩) ?restyb16_9
                case hyyb16_9 => ((try dsimp only at hSw); go_simp; try with_reducible rfl)
                try simp only [Act.put, List.setIfInBounds_toArray, List.set_cons_zero, List.set_cons_succ]
                refine Left.run (i := 10) rfl (by kernel_rfl) (fun K hK => ?_)
                go_simp
                go_at_call 24
                refine (each_none p bt v s3 v.vt s3.tasks 1 s3.under _ w0 _ O6.out (fun w' h => CoV.tasks h) hte.out (fun w' h => trivial)).mono ?_
                rintro e w14 ⟨A7, c7, rfl, H8⟩
                have hyl : Hid ((s3.tell 1 s3.under s3.tasks nobody).length ≤ 1000) := by show _ ≤ _; unfold Co.tell; rw [List.length_map]; exact Nat.le_trans (List.length_filter_le _ _) hte.out
                have hbd : Hid ((out.length + (s3.tell 1 s3.under s3.tasks nobody).length) * 32 ≤ 140737488355328) := by show _ ≤ _; have := hol.out; have := hyl.out; omega
                obtain ⟨ys, hys⟩ : ∃ ys, s3.tell 1 s3.under s3.tasks nobody = ys := ⟨_, rfl⟩
                rw [hys] at H8 hyl hbd hst ⊢
                replace hys := Lib.hid hys
                replace H8 := Lib.hid H8
                go_simp
                replace hS : (fun w' : World => w'.cell? ⟨bt, 0, none⟩ = some (.pointer (some ⟨p, 0, none⟩)) ∧ w'.cell? ⟨p, 0, none⟩ = some v.vt ∧ w'.cell? ⟨p, 10, none⟩ = some (.int .u64 s3.under)) w14 := by exact ⟨H8.out.at3.cellOf 0 rfl, CoV.cell (H8.out.at1) 0 rfl, CoV.cell (H8.out.at1) 10 rfl⟩
                refine hK.out _ _ (Or.inr hS) ?_
                clear hK K
                try simp only [Act.put, List.setIfInBounds_toArray, List.set_cons_zero, List.set_cons_succ]
                refine Left.run (i := 11) rfl (by kernel_rfl) (fun K hK => ?_)
                simp only [Act.put, List.getElem_toArray, List.getElem_cons_zero, List.getElem_cons_succ, List.setIfInBounds_toArray, List.set_cons_zero, List.set_cons_succ]
                rw [if_pos (by rfl)]
                refine wp_appendL (E := ECtl) (v := .slice Ao out.length co) (.tmp 145) (.tmp 155) 27 (by rfl) 32 _ 4 32 Try.underlying27 infoC rfl (by decide) (by decide) rfl (by rfl) (.slice A7 ys.length c7) (by rfl) H8.out.at2 H8.out.ls_rd hbd.out ?_
                intro A9 c9 w15 H9
                replace hS : (fun w' : World => w'.cell? ⟨bt, 0, none⟩ = some (.pointer (some ⟨p, 0, none⟩)) ∧ w'.cell? ⟨p, 0, none⟩ = some v.vt ∧ w'.cell? ⟨p, 10, none⟩ = some (.int .u64 s3.under)) w15 := by exact ⟨H9.at3.cellOf 0 rfl, CoV.cell (H9.at2) 0 rfl, CoV.cell (H9.at2) 10 rfl⟩
                refine hK.out _ _ (Or.inr hS) ?_
                clear hK K
                try simp only [Act.put, List.setIfInBounds_toArray, List.set_cons_zero, List.set_cons_succ]
                refine Left.run (i := 12) rfl (by kernel_rfl) (fun K hK => ?_)
                go_simp
                refine hK.out _ _ (Or.inl (by kernel_rfl)) ?_
                clear hK K
                try simp only [Act.put, List.setIfInBounds_toArray, List.set_cons_zero, List.set_cons_succ]
                refine Left.done (by kernel_rfl) ?_ _
                rw [← List.length_append] at H9 ⊢
                go_wp2_with fail
                go_ret
                rw [hst.out]
                exact ⟨A9, c9, by first | rfl | (show _ = Ending.returned (Value.slice A9 (out ++ ys).length c9); rw [List.length_append]; rfl), H9.at1.tail.at2.tail⟩
              · have hdb : decide (s2.interval ≤ s2.ticks - s2.since) = false := by rw [decide_eq_false_iff_not]; exact hdue
                have hst : Hid (s.tick = (s2, out)) := by
                  show _ = _
                  rw [hgo.out]
                  unfold Co.go
                  rw [if_neg (by unfold Co.due; rw [hdb, Bool.and_false]; decide), if_neg (by rw [show s2.under = 0 from by simpa using hb10']; simp), ← hout.out]
                clear hdue
                go_wp2_with fail
                go_quiet (fail)
                replace H7 := Lib.hid (H7.out.drewN nq)
                clear q14 q16 q2 k0 q10
                generalize World.drewN w7 nq = w9 at *
                have k0 : w9.cell? ⟨bt, 0, none⟩ = some (.pointer (some ⟨p, 0, none⟩)) := H7.out.at2.cellOf 0 rfl
                have q10 : w9.cell? ⟨p, 10, none⟩ = some (.int .u64 0) := by
                  have := CoV.cell H7.out.at1 10 (u := .int .u64 s2.under) rfl
                  rwa [show s2.under = 0 from by simpa using hb10'] at this
                go_wp2_with fail
                go_ret
                rw [hst.out]
                exact ⟨Ao, co, rfl, H7.out.at2.tail⟩
            · have hl2 : lm = 2 * s1.limit := by omega
              subst hl2
              have hm1 : ¬ 1048576 < 2 * s1.limit := by omega
              clear hlm
              go_upto_region 12 with (fail)
              clear q13 f13 O2
              generalize World.setCell _ _ _ = w7 at O5 ⊢
              have H7 := O5
              clear O5
              have q10 : w7.cell? ⟨p, 10, none⟩ = some (.int .u64 s2.under) := CoV.cell H7.out.at1 10 rfl
              have q14 : w7.cell? ⟨p, 14, none⟩ = some (.int .i64 s2.ticks) := CoV.cell H7.out.at1 14 rfl
              have q16 : w7.cell? ⟨p, 16, none⟩ = some (.int .i64 s2.since) := CoV.cell H7.out.at1 16 rfl
              have q2 : w7.cell? ⟨p, 2, none⟩ = some (.int .i64 s2.interval) := CoV.cell H7.out.at1 2 rfl
              rw [show s2.under = 0 from by simpa using hb10'] at q10
              have k0 : w7.cell? ⟨bt, 0, none⟩ = some (.pointer (some ⟨p, 0, none⟩)) := H7.out.at2.cellOf 0 rfl
              by_cases hdue : s2.interval ≤ s2.ticks - s2.since
              · go_wp2_with fail
                go_quiet (fail)
                replace H7 := Lib.hid (H7.out.drewN nq)
                clear q10 q14 q16 q2 k0
                generalize World.drewN w7 nq = w9 at *
                have hst : Hid (s.tick = (s2.start, out ++ s2.start.tell 1 s2.start.under s2.tasks nobody)) := by
                  show _ = _
                  rw [hgo.out]
                  unfold Co.go
                  rw [if_pos (by unfold Co.due; rw [hb10']; simpa using hdue), ← hout.out]
                clear hdue
                have k0 : w9.cell? ⟨bt, 0, none⟩ = some (.pointer (some ⟨p, 0, none⟩)) := H7.out.at2.cellOf 0 rfl
                have q6 : w9.cell? ⟨p, 6, none⟩ = some (.int .u64 s2.last) := CoV.cell H7.out.at1 6 rfl
                have f6 := CoV.free H7.out.at1 6
                have O := (CoV.open_ H7.out.at1).setCell (i := 6) (.int .u64 (s2.last + 1))
                have O1 := Lib.hid (CoV.mk_ (p := p) (v := v) (s := { s2 with last := s2.last + 1 }) O)
                clear O
                go_upto_region 14 with (fail)
                clear q6 f6 k0 H7
                generalize World.setCell _ _ _ = w8 at O1 ⊢
                obtain ⟨s4, hs4⟩ : ∃ s4, s4 = { s2 with last := s2.last + 1 } := ⟨_, rfl⟩
                rw [← hs4] at O1
                obtain ⟨s3, hs3⟩ : ∃ s3, s3 = s2.start := ⟨_, rfl⟩
                have hs34 : Hid (s3 = { s4 with under := s4.last, began := s4.ticks, since := s4.ticks, acked := nobody }) := by show _ = _; rw [hs3, hs4]; rfl
                have hst4 : Hid (s3.tasks = s2.tasks) := by show _ = _; rw [hs3]; rfl
                have hte : Hid (s3.tasks.length ≤ 1000) := by show _ ≤ _; rw [hst4.out]; exact hlen
                rw [← hs3, ← hst4.out] at hst
                clear hs3 hs4 hst4
                have O2 := Lib.hid O1.out.drew
                have q10 : w8.cell? ⟨p, 10, none⟩ = some (.int .u64 s4.under) := CoV.cell O1.out 10 rfl
                have q15 : w8.cell? ⟨p, 15, none⟩ = some (.int .i64 s4.began) := CoV.cell O1.out 15 rfl
                have q16 : w8.cell? ⟨p, 16, none⟩ = some (.int .i64 s4.since) := CoV.cell O1.out 16 rfl
                have f10 := CoV.free O1.out 10
                have f15 := CoV.free O1.out 15
                have f16 := CoV.free O1.out 16
                clear O1
                refine wp_region_left (S := fun w' : World => w'.cell? ⟨bt, 0, none⟩ = some (.pointer (some ⟨p, 0, none⟩)) ∧ w'.cell? ⟨p, 6, none⟩ = some (.int .u64 s4.last) ∧ w'.cell? ⟨p, 14, none⟩ = some (.int .i64 s4.ticks)) 23 mixed ?_
                have hS : (fun w' : World => w'.cell? ⟨bt, 0, none⟩ = some (.pointer (some ⟨p, 0, none⟩)) ∧ w'.cell? ⟨p, 6, none⟩ = some (.int .u64 s4.last) ∧ w'.cell? ⟨p, 14, none⟩ = some (.int .i64 s4.ticks)) w8.drew := by exact ⟨O2.out.at2.cellOf 0 rfl, CoV.cell O2.out 6 rfl, CoV.cell O2.out 14 rfl⟩
                refine Left.take (i := 0) (v := ?vyc14_0) rfl (by kernel_rfl) (fun _ _ _ h => h) hS (Or.inl ⟨by rfl, fun w hSw => ?hyyc14_0⟩) ?restyc14_0
                case hyyc14_0 => ((try dsimp only at hSw); go_simp; try with_reducible rfl)
                try simp only [Act.put, List.setIfInBounds_toArray, List.set_cons_zero, List.set_cons_succ]
                refine Left.take (i := 1) (v := ?vyc14_1) rfl (by kernel_rfl) (fun _ _ _ h => h) hS (Or.inl ⟨by rfl, fun w hSw => ?hyyc14_1⟩) ?restyc14_1
                case hyyc14_1 => ((try dsimp only at hSw); go_simp; try with_reducible rfl)
                try simp only [Act.put, List.setIfInBounds_toArray, List.set_cons_zero, List.set_cons_succ]
                refine Left.take (i := 2) (v := ?vyc14_2) rfl (by kernel_rfl) (fun _ _ _ h => h) hS (Or.inl ⟨by rfl, fun w hSw => ?hyyc14_2⟩) ?restyc14_2
                case hyyc14_2 => ((try dsimp only at hSw); go_simp; try with_reducible rfl)
                try simp only [Act.put, List.setIfInBounds_toArray, List.set_cons_zero, List.set_cons_succ]
                refine Left.take (i := 3) (v := ?vyc14_3) rfl (by kernel_rfl) (fun _ _ _ h => h) hS (Or.inl ⟨by rfl, fun w hSw => ?hyyc14_3⟩) ?restyc14_3
                case hyyc14_3 => ((try dsimp only at hSw); go_simp; try with_reducible rfl)
                try simp only [Act.put, List.setIfInBounds_toArray, List.set_cons_zero, List.set_cons_succ]
                refine Left.pure (i := 4) (v := ?vyc14_4) rfl (by kernel_rfl) (fun _ _ _ h => h) (Or.inr hS) (Or.inl ⟨by rfl, fun w _ => ?hyyc14_4⟩) ?restyc14_4
                case hyyc14_4 => (go_simp; try with_reducible rfl)
                try simp only [Act.put, List.setIfInBounds_toArray, List.set_cons_zero, List.set_cons_succ]
                refine Left.pure (i := 5) (v := ?vyc14_5) rfl (by kernel_rfl) (fun _ _ _ h => h) (Or.inr hS) (Or.inl ⟨by rfl, fun w _ => ?hyyc14_5⟩) ?restyc14_5
                case hyyc14_5 => (go_simp; try with_reducible rfl)
                try simp only [Act.put, List.setIfInBounds_toArray, List.set_cons_zero, List.set_cons_succ]
                refine Left.take (i := 6) (v := ?vyc14_6) rfl (by kernel_rfl) (fun _ _ _ h => h) hS (Or.inl ⟨by rfl, fun w hSw => ?hyyc14_6⟩) ?restyc14_6
                case hyyc14_6 => ((try dsimp only at hSw); go_simp; try with_reducible rfl)
                try simp only [Act.put, List.setIfInBounds_toArray, List.set_cons_zero, List.set_cons_succ]
                refine Left.take (i := 7) (v := ?vyc14_7) rfl (by kernel_rfl) (fun _ _ _ h => h) hS (Or.inl ⟨by rfl, fun w hSw => ?hyyc14_7⟩) ?restyc14_7
                case hyyc14_7 => ((try dsimp only at hSw); go_simp; try with_reducible rfl)
                try simp only [Act.put, List.setIfInBounds_toArray, List.set_cons_zero, List.set_cons_succ]
                refine Left.pure (i := 8) (v := ?vyc14_8) rfl (by kernel_rfl) (fun _ _ _ h => h) (Or.inr hS) (Or.inl ⟨by rfl, fun w _ => ?hyyc14_8⟩) ?restyc14_8
                case hyyc14_8 => (go_simp; try with_reducible rfl)
                try simp only [Act.put, List.setIfInBounds_toArray, List.set_cons_zero, List.set_cons_succ]
                refine Left.pure (i := 9) (v := ?vyc14_9) rfl (by kernel_rfl) (fun _ _ _ h => h) (Or.inr hS) (Or.inl ⟨by rfl, fun w _ => ?hyyc14_9⟩) ?restyc14_9
                case hyyc14_9 => (go_simp; try with_reducible rfl)
                try simp only [Act.put, List.setIfInBounds_toArray, List.set_cons_zero, List.set_cons_succ]
                refine Left.take (i := 10) (v := ?vyc14_10) rfl (by kernel_rfl) (fun _ _ _ h => h) hS (Or.inl ⟨by rfl, fun w hSw => ?hyyc14_10⟩) ?restyc14_10
                case hyyc14_10 => ((try dsimp only at hSw); go_simp; try with_reducible rfl)
                try simp only [Act.put, List.setIfInBounds_toArray, List.set_cons_zero, List.set_cons_succ]
                refine Left.take (i := 11) (v := ?vyc14_11) rfl (by kernel_rfl) (fun _ _ _ h => h) hS (Or.inl ⟨by rfl, fun w hSw => ?hyyc14_11⟩) ?restyc14_11
                case hyyc14_11 => ((try dsimp only at hSw); go_simp; try with_reducible rfl)
                try simp only [Act.put, List.setIfInBounds_toArray, List.set_cons_zero, List.set_cons_succ]
                refine Left.pure (i := 12) (v := ?vyc14_12) rfl (by kernel_rfl) (fun _ _ _ h => h) (Or.inr hS) (Or.inl ⟨by rfl, fun w _ => ?hyyc14_12⟩) ?restyc14_12
                case hyyc14_12 => (go_simp; try with_reducible rfl)
                try simp only [Act.put, List.setIfInBounds_toArray, List.set_cons_zero, List.set_cons_succ]
                refine Left.pure (i := 13) (v := ?vyc14_13) rfl (by kernel_rfl) (fun _ _ _ h => h) (Or.inr hS) (Or.inl ⟨by rfl, fun w _ => ?hyyc14_13⟩) ?restyc14_13
                case hyyc14_13 => (go_simp; try with_reducible rfl)
                try simp only [Act.put, List.setIfInBounds_toArray, List.set_cons_zero, List.set_cons_succ]
                refine Left.take (i := 14) (v := ?vyc14_14) rfl (by kernel_rfl) (fun _ _ _ h => h) hS (Or.inl ⟨by rfl, fun w hSw => ?hyyc14_14⟩) ?restyc14_14
                case hyyc14_14 => ((try dsimp only at hSw); go_simp; try with_reducible rfl)
                try simp only [Act.put, List.setIfInBounds_toArray, List.set_cons_zero, List.set_cons_succ]
                refine Left.pure (i := 15) (v := ?vyc14_15) rfl (by kernel_rfl) (fun _ _ _ h => h) (Or.inr hS) (Or.inl ⟨by rfl, fun w _ => ?hyyc14_15⟩) ?restyc14_15
                case hyyc14_15 => (go_simp; try with_reducible rfl)
                try simp only [Act.put, List.setIfInBounds_toArray, List.set_cons_zero, List.set_cons_succ]
                refine Left.pure (i := 16) (v := ?vyc14_16) rfl (by kernel_rfl) (fun _ _ _ h => h) (Or.inr hS) (Or.inl ⟨by rfl, fun w _ => ?hyyc14_16⟩) ?restyc14_16
                case hyyc14_16 => (go_simp; try with_reducible rfl)
                try simp only [Act.put, List.setIfInBounds_toArray, List.set_cons_zero, List.set_cons_succ]
                refine Left.run (i := 17) rfl (by kernel_rfl) (fun K hK => ?_)
                have O3 := (CoV.open_ O2.out).setCell (i := 10) (.int .u64 s4.last)
                go_simp
                replace hS : (fun w' : World => w'.cell? ⟨bt, 0, none⟩ = some (.pointer (some ⟨p, 0, none⟩)) ∧ w'.cell? ⟨p, 6, none⟩ = some (.int .u64 s4.last) ∧ w'.cell? ⟨p, 14, none⟩ = some (.int .i64 s4.ticks)) (w8.drew.setCell ⟨p, 10, none⟩ (.int .u64 s4.last)) := by exact ⟨O3.at7.cellOf 0 rfl, O3.cellOf 6 rfl, O3.cellOf 14 rfl⟩
                refine hK.out _ _ (Or.inr hS) ?_
                clear hK K
                try simp only [Act.put, List.setIfInBounds_toArray, List.set_cons_zero, List.set_cons_succ]
                refine Left.pure (i := 18) (v := ?vyc14_18) rfl (by kernel_rfl) (fun _ _ _ h => h) (Or.inr hS) (Or.inl ⟨by rfl, fun w _ => ?hyyc14_18⟩) ?restyc14_18
                case hyyc14_18 => (go_simp; try with_reducible rfl)
                try simp only [Act.put, List.setIfInBounds_toArray, List.set_cons_zero, List.set_cons_succ]
                refine Left.pure (i := 19) (v := ?vyc14_19) rfl (by kernel_rfl) (fun _ _ _ h => h) (Or.inr hS) (Or.inl ⟨by rfl, fun w _ => ?hyyc14_19⟩) ?restyc14_19
                case hyyc14_19 => (go_simp; try with_reducible rfl)
                try simp only [Act.put, List.setIfInBounds_toArray, List.set_cons_zero, List.set_cons_succ]
                refine Left.run (i := 20) rfl (by kernel_rfl) (fun K hK => ?_)
                replace O3 := O3.setCell (i := 15) (.int .i64 s4.ticks)
                go_simp
                replace hS : (fun w' : World => w'.cell? ⟨bt, 0, none⟩ = some (.pointer (some ⟨p, 0, none⟩)) ∧ w'.cell? ⟨p, 6, none⟩ = some (.int .u64 s4.last) ∧ w'.cell? ⟨p, 14, none⟩ = some (.int .i64 s4.ticks)) ((w8.drew.setCell ⟨p, 10, none⟩ (.int .u64 s4.last)).setCell ⟨p, 15, none⟩ (.int .i64 s4.ticks)) := by exact ⟨O3.at7.cellOf 0 rfl, O3.cellOf 6 rfl, O3.cellOf 14 rfl⟩
                refine hK.out _ _ (Or.inr hS) ?_
                clear hK K
                try simp only [Act.put, List.setIfInBounds_toArray, List.set_cons_zero, List.set_cons_succ]
                refine Left.pure (i := 21) (v := ?vyc14_21) rfl (by kernel_rfl) (fun _ _ _ h => h) (Or.inr hS) (Or.inl ⟨by rfl, fun w _ => ?hyyc14_21⟩) ?restyc14_21
                case hyyc14_21 => (go_simp; try with_reducible rfl)
                try simp only [Act.put, List.setIfInBounds_toArray, List.set_cons_zero, List.set_cons_succ]
                refine Left.pure (i := 22) (v := ?vyc14_22) rfl (by kernel_rfl) (fun _ _ _ h => h) (Or.inr hS) (Or.inl ⟨by rfl, fun w _ => ?hyyc14_22⟩) ?restyc14_22
                case hyyc14_22 => (go_simp; try with_reducible rfl)
                try simp only [Act.put, List.setIfInBounds_toArray, List.set_cons_zero, List.set_cons_succ]
                refine Left.run (i := 23) rfl (by kernel_rfl) (fun K hK => ?_)
                go_simp
                refine hK.out _ _ (Or.inl (by kernel_rfl)) ?_
                clear hK K
                try simp only [Act.put, List.setIfInBounds_toArray, List.set_cons_zero, List.set_cons_succ]
                refine Left.done (by kernel_rfl) ?_ _
                replace O3 : Hs w0 (((w8.setCell ⟨p, 10, none⟩ (.int .u64 s4.last)).setCell ⟨p, 15, none⟩ (.int .i64 s4.ticks)).setCell ⟨p, 16, none⟩ (.int .i64 s4.ticks)).drew _ := O3.setCell (i := 16) (.int .i64 s4.ticks)
                clear q10 q15 q16 f10 f15 f16 O2 hS
                generalize World.drew _ = w11 at O3 ⊢
                simp only [coCells, List.setIfInBounds_toArray, List.set_cons_zero, List.set_cons_succ] at O3
                have k0 : w11.cell? ⟨bt, 0, none⟩ = some (.pointer (some ⟨p, 0, none⟩)) := O3.at7.cellOf 0 rfl
                have k8 : w11.cell? ⟨p, 8, none⟩ = some (.map (some v.m2)) := O3.cellOf 8 rfl
                obtain ⟨w12, hr2, O4⟩ := O3.at4.mf_clear (P := Try.prog) 48 3 4 0 Try.underlying48
                have O5 := CoV.mk_ (p := p) (v := v) (s := { s4 with under := s4.last, began := s4.ticks, since := s4.ticks, acked := nobody }) O4.at4.at4.at4.at4
                rw [← hs34.out] at O5
                replace O5 := Lib.hid O5
                clear O3 O4
                go_upto_region 16 with (fail)
                clear k0 k8 hr2
                have O6 := Lib.hid O5.out.drew
                clear O5
                refine wp_region_left (S := fun w' : World => w'.cell? ⟨bt, 0, none⟩ = some (.pointer (some ⟨p, 0, none⟩)) ∧ w'.cell? ⟨p, 0, none⟩ = some v.vt ∧ w'.cell? ⟨p, 10, none⟩ = some (.int .u64 s3.under)) 12 mixed ?_
                have hS : (fun w' : World => w'.cell? ⟨bt, 0, none⟩ = some (.pointer (some ⟨p, 0, none⟩)) ∧ w'.cell? ⟨p, 0, none⟩ = some v.vt ∧ w'.cell? ⟨p, 10, none⟩ = some (.int .u64 s3.under)) w12.drew := by exact ⟨O6.out.at2.cellOf 0 rfl, CoV.cell (O6.out) 0 rfl, CoV.cell (O6.out) 10 rfl⟩
                refine Left.pure (i := 0) (v := ?vyc16_0) rfl (by kernel_rfl) (fun _ _ _ h => h) (Or.inr hS) (Or.inl ⟨by rfl, fun w _ => ?hyyc16_0⟩) ?restyc16_0
                case hyyc16_0 => (go_simp; try with_reducible rfl)
                try simp only [Act.put, List.setIfInBounds_toArray, List.set_cons_zero, List.set_cons_succ]
                refine Left.take (i := 1) (v := ?vyc16_1) rfl (by kernel_rfl) (fun _ _ _ h => h) hS (Or.inl ⟨by rfl, fun w hSw => ?hyyc16_1⟩) ?restyc16_1
                case hyyc16_1 => ((try dsimp only at hSw); go_simp; try with_reducible rfl)
                try simp only [Act.put, List.setIfInBounds_toArray, List.set_cons_zero, List.set_cons_succ]
                refine Left.take (i := 2) (v := ?vyc16_2) rfl (by kernel_rfl) (fun _ _ _ h => h) hS (Or.inl ⟨by rfl, fun w hSw => ?hyyc16_2⟩) ?restyc16_2
                case hyyc16_2 => ((try dsimp only at hSw); go_simp; try with_reducible rfl)
                try simp only [Act.put, List.setIfInBounds_toArray, List.set_cons_zero, List.set_cons_succ]
                refine Left.pure (i := 3) (v := ?vyc16_3) rfl (by kernel_rfl) (fun _ _ _ h => h) (Or.inr hS) (Or.inl ⟨by rfl, fun w _ => ?hyyc16_3⟩) ?restyc16_3
                case hyyc16_3 => (go_simp; try with_reducible rfl)
                try simp only [Act.put, List.setIfInBounds_toArray, List.set_cons_zero, List.set_cons_succ]
                refine Left.pure (i := 4) (v := ?vyc16_4) rfl (by kernel_rfl) (fun _ _ _ h => h) (Or.inr hS) (Or.inl ⟨by rfl, fun w _ => ?hyyc16_4⟩) ?restyc16_4
                case hyyc16_4 => (go_simp; try with_reducible rfl)
                try simp only [Act.put, List.setIfInBounds_toArray, List.set_cons_zero, List.set_cons_succ]
                refine Left.take (i := 5) (v := ?vyc16_5) rfl (by kernel_rfl) (fun _ _ _ h => h) hS (Or.inl ⟨by rfl, fun w hSw => ?hyyc16_5⟩) ?restyc16_5
                case hyyc16_5 => ((try dsimp only at hSw); go_simp; try with_reducible rfl)
                try simp only [Act.put, List.setIfInBounds_toArray, List.set_cons_zero, List.set_cons_succ]
                refine Left.take (i := 6) (v := ?vyc16_6) rfl (by kernel_rfl) (fun _ _ _ h => h) hS (Or.inl ⟨by rfl, fun w hSw => ?hyyc16_6⟩) ?restyc16_6
                case hyyc16_6 => ((try dsimp only at hSw); go_simp; try with_reducible rfl)
                try simp only [Act.put, List.setIfInBounds_toArray, List.set_cons_zero, List.set_cons_succ]
                refine Left.pure (i := 7) (v := ?vyc16_7) rfl (by kernel_rfl) (fun _ _ _ h => h) (Or.inr hS) (Or.inl ⟨by rfl, fun w _ => ?hyyc16_7⟩) ?restyc16_7
                case hyyc16_7 => (go_simp; try with_reducible rfl)
                try simp only [Act.put, List.setIfInBounds_toArray, List.set_cons_zero, List.set_cons_succ]
                refine Left.pure (i := 8) (v := ?vyc16_8) rfl (by kernel_rfl) (fun _ _ _ h => h) (Or.inr hS) (Or.inl ⟨by rfl, fun w _ => ?hyyc16_8⟩) ?restyc16_8
                case hyyc16_8 => (go_simp; try with_reducible rfl)
                try simp only [Act.put, List.setIfInBounds_toArray, List.set_cons_zero, List.set_cons_succ]
                refine Left.take (i := 9) (v := ?vyc16_9) rfl (by kernel_rfl) (fun _ _ _ h => h) hS (Or.inl ⟨by rfl, fun w hSw => ?hyyc16_9⟩) ?restyc16_9
                case hyyc16_9 => ((try dsimp only at hSw); go_simp; try with_reducible rfl)
                try simp only [Act.put, List.setIfInBounds_toArray, List.set_cons_zero, List.set_cons_succ]
                refine Left.run (i := 10) rfl (by kernel_rfl) (fun K hK => ?_)
                go_simp
                go_at_call 24
                refine (each_none p bt v s3 v.vt s3.tasks 1 s3.under _ w0 _ O6.out (fun w' h => CoV.tasks h) hte.out (fun w' h => trivial)).mono ?_
                rintro e w14 ⟨A7, c7, rfl, H8⟩
                have hyl : Hid ((s3.tell 1 s3.under s3.tasks nobody).length ≤ 1000) := by show _ ≤ _; unfold Co.tell; rw [List.length_map]; exact Nat.le_trans (List.length_filter_le _ _) hte.out
                have hbd : Hid ((out.length + (s3.tell 1 s3.under s3.tasks nobody).length) * 32 ≤ 140737488355328) := by show _ ≤ _; have := hol.out; have := hyl.out; omega
                obtain ⟨ys, hys⟩ : ∃ ys, s3.tell 1 s3.under s3.tasks nobody = ys := ⟨_, rfl⟩
                rw [hys] at H8 hyl hbd hst ⊢
                replace hys := Lib.hid hys
                replace H8 := Lib.hid H8
                go_simp
                replace hS : (fun w' : World => w'.cell? ⟨bt, 0, none⟩ = some (.pointer (some ⟨p, 0, none⟩)) ∧ w'.cell? ⟨p, 0, none⟩ = some v.vt ∧ w'.cell? ⟨p, 10, none⟩ = some (.int .u64 s3.under)) w14 := by exact ⟨H8.out.at3.cellOf 0 rfl, CoV.cell (H8.out.at1) 0 rfl, CoV.cell (H8.out.at1) 10 rfl⟩
                refine hK.out _ _ (Or.inr hS) ?_
                clear hK K
                try simp only [Act.put, List.setIfInBounds_toArray, List.set_cons_zero, List.set_cons_succ]
                refine Left.run (i := 11) rfl (by kernel_rfl) (fun K hK => ?_)
                simp only [Act.put, List.getElem_toArray, List.getElem_cons_zero, List.getElem_cons_succ, List.setIfInBounds_toArray, List.set_cons_zero, List.set_cons_succ]
                rw [if_pos (by rfl)]
                refine wp_appendL (E := ECtl) (v := .slice Ao out.length co) (.tmp 145) (.tmp 155) 27 (by rfl) 32 _ 4 32 Try.underlying27 infoC rfl (by decide) (by decide) rfl (by rfl) (.slice A7 ys.length c7) (by rfl) H8.out.at2 H8.out.ls_rd hbd.out ?_
                intro A9 c9 w15 H9
                replace hS : (fun w' : World => w'.cell? ⟨bt, 0, none⟩ = some (.pointer (some ⟨p, 0, none⟩)) ∧ w'.cell? ⟨p, 0, none⟩ = some v.vt ∧ w'.cell? ⟨p, 10, none⟩ = some (.int .u64 s3.under)) w15 := by exact ⟨H9.at3.cellOf 0 rfl, CoV.cell (H9.at2) 0 rfl, CoV.cell (H9.at2) 10 rfl⟩
                refine hK.out _ _ (Or.inr hS) ?_
                clear hK K
                try simp only [Act.put, List.setIfInBounds_toArray, List.set_cons_zero, List.set_cons_succ]
                refine Left.run (i := 12) rfl (by kernel_rfl) (fun K hK => ?_)
                go_simp
                refine hK.out _ _ (Or.inl (by kernel_rfl)) ?_
                clear hK K
                try simp only [Act.put, List.setIfInBounds_toArray, List.set_cons_zero, List.set_cons_succ]
                refine Left.done (by kernel_rfl) ?_ _
                rw [← List.length_append] at H9 ⊢
                go_wp2_with fail
                go_ret
                rw [hst.out]
                exact ⟨A9, c9, by first | rfl | (show _ = Ending.returned (Value.slice A9 (out ++ ys).length c9); rw [List.length_append]; rfl), H9.at1.tail.at2.tail⟩
              · have hdb : decide (s2.interval ≤ s2.ticks - s2.since) = false := by rw [decide_eq_false_iff_not]; exact hdue
                have hst : Hid (s.tick = (s2, out)) := by
                  show _ = _
                  rw [hgo.out]
                  unfold Co.go
                  rw [if_neg (by unfold Co.due; rw [hdb, Bool.and_false]; decide), if_neg (by rw [show s2.under = 0 from by simpa using hb10']; simp), ← hout.out]
                clear hdue
                go_wp2_with fail
                go_quiet (fail)
                replace H7 := Lib.hid (H7.out.drewN nq)
                clear q14 q16 q2 k0 q10
                generalize World.drewN w7 nq = w9 at *
                have k0 : w9.cell? ⟨bt, 0, none⟩ = some (.pointer (some ⟨p, 0, none⟩)) := H7.out.at2.cellOf 0 rfl
                have q10 : w9.cell? ⟨p, 10, none⟩ = some (.int .u64 0) := by
                  have := CoV.cell H7.out.at1 10 (u := .int .u64 s2.under) rfl
                  rwa [show s2.under = 0 from by simpa using hb10'] at this
                go_wp2_with fail
                go_ret
                rw [hst.out]
                exact ⟨Ao, co, rfl, H7.out.at2.tail⟩
          · have hlb : decide (s1.limit ≤ s1.ticks - s1.began) = false := by rw [decide_eq_false_iff_not]; exact hlt
            have hlate : s1.late = false := by unfold Co.late; rw [hlb]; simp
            have hst : Hid (s.tick = (s1, out ++ s1.tell 1 s1.under s1.tasks s1.acked)) := by
              show _ = _
              rw [htk2.out false hlate]
              unfold Co.go
              simp only [Bool.false_eq_true, if_false]
              rw [if_neg (by unfold Co.due; rw [hub2]; simp), if_pos (by rw [hub, hsto]; rfl), ← hout.out]
            have hsto' := Lib.hid hsto
            have hte : Hid (s1.tasks.length ≤ 1000) := hlen
            clear htk2 hlate hu hsto hlt
            go_quiet (fail)
            have H7 := Lib.hid (H5.out.drewN nq)
            clear q10 q12 q13 q14 q15 k0 H5
            generalize World.drewN w5 nq = w7 at *
            have q10 : w7.cell? ⟨p, 10, none⟩ = some (.int .u64 s1.under) := CoV.cell H7.out.at1 10 rfl
            have k0 : w7.cell? ⟨bt, 0, none⟩ = some (.pointer (some ⟨p, 0, none⟩)) := H7.out.at2.cellOf 0 rfl
            go_wp2_with fail
            go_quiet (fail)
            replace H7 := Lib.hid (H7.out.drewN nq)
            clear k0 q10
            generalize World.drewN w7 nq = w12 at *
            have k0 : w12.cell? ⟨bt, 0, none⟩ = some (.pointer (some ⟨p, 0, none⟩)) := H7.out.at2.cellOf 0 rfl
            have q10 : w12.cell? ⟨p, 10, none⟩ = some (.int .u64 s1.under) := CoV.cell H7.out.at1 10 rfl
            have q12 : w12.cell? ⟨p, 12, none⟩ = some (.bool false) := by
              have := CoV.cell H7.out.at1 12 (u := .bool s1.stored) rfl
              rwa [hsto'.out] at this
            go_upto_region 18 with (fail)
            clear k0 q10 q12
            have O6 := Lib.hid H7.out.drew.at1
            clear H7
            refine wp_region_left (S := fun w' : World => w'.cell? ⟨bt, 0, none⟩ = some (.pointer (some ⟨p, 0, none⟩)) ∧ w'.cell? ⟨p, 0, none⟩ = some v.vt ∧ w'.cell? ⟨p, 10, none⟩ = some (.int .u64 s1.under)) 13 mixed ?_
            have hS : (fun w' : World => w'.cell? ⟨bt, 0, none⟩ = some (.pointer (some ⟨p, 0, none⟩)) ∧ w'.cell? ⟨p, 0, none⟩ = some v.vt ∧ w'.cell? ⟨p, 10, none⟩ = some (.int .u64 s1.under)) w12.drew := by exact ⟨O6.out.at2.cellOf 0 rfl, CoV.cell (O6.out) 0 rfl, CoV.cell (O6.out) 10 rfl⟩
            refine Left.pure (i := 0) (v := ?vyd18_0) rfl (by kernel_rfl) (fun _ _ _ h => h) (Or.inr hS) (Or.inl ⟨by rfl, fun w _ => ?hyyd18_0⟩) ?restyd18_0
            case hyyd18_0 => (go_simp; try with_reducible rfl)
            try simp only [Act.put, List.setIfInBounds_toArray, List.set_cons_zero, List.set_cons_succ]
            refine Left.take (i := 1) (v := ?vyd18_1) rfl (by kernel_rfl) (fun _ _ _ h => h) hS (Or.inl ⟨by rfl, fun w hSw => ?hyyd18_1⟩) ?restyd18_1
            case hyyd18_1 => ((try dsimp only at hSw); go_simp; try with_reducible rfl)
            try simp only [Act.put, List.setIfInBounds_toArray, List.set_cons_zero, List.set_cons_succ]
            refine Left.take (i := 2) (v := ?vyd18_2) rfl (by kernel_rfl) (fun _ _ _ h => h) hS (Or.inl ⟨by rfl, fun w hSw => ?hyyd18_2⟩) ?restyd18_2
            case hyyd18_2 => ((try dsimp only at hSw); go_simp; try with_reducible rfl)
            try simp only [Act.put, List.setIfInBounds_toArray, List.set_cons_zero, List.set_cons_succ]
            refine Left.pure (i := 3) (v := ?vyd18_3) rfl (by kernel_rfl) (fun _ _ _ h => h) (Or.inr hS) (Or.inl ⟨by rfl, fun w _ => ?hyyd18_3⟩) ?restyd18_3
            case hyyd18_3 => (go_simp; try with_reducible rfl)
            try simp only [Act.put, List.setIfInBounds_toArray, List.set_cons_zero, List.set_cons_succ]
            refine Left.pure (i := 4) (v := ?vyd18_4) rfl (by kernel_rfl) (fun _ _ _ h => h) (Or.inr hS) (Or.inl ⟨by rfl, fun w _ => ?hyyd18_4⟩) ?restyd18_4
            case hyyd18_4 => (go_simp; try with_reducible rfl)
            try simp only [Act.put, List.setIfInBounds_toArray, List.set_cons_zero, List.set_cons_succ]
            refine Left.take (i := 5) (v := ?vyd18_5) rfl (by kernel_rfl) (fun _ _ _ h => h) hS (Or.inl ⟨by rfl, fun w hSw => ?hyyd18_5⟩) ?restyd18_5
            case hyyd18_5 => ((try dsimp only at hSw); go_simp; try with_reducible rfl)
            try simp only [Act.put, List.setIfInBounds_toArray, List.set_cons_zero, List.set_cons_succ]
            refine Left.take (i := 6) (v := ?vyd18_6) rfl (by kernel_rfl) (fun _ _ _ h => h) hS (Or.inl ⟨by rfl, fun w hSw => ?hyyd18_6⟩) ?restyd18_6
            case hyyd18_6 => ((try dsimp only at hSw); go_simp; try with_reducible rfl)
            try simp only [Act.put, List.setIfInBounds_toArray, List.set_cons_zero, List.set_cons_succ]
            refine Left.pure (i := 7) (v := ?vyd18_7) rfl (by kernel_rfl) (fun _ _ _ h => h) (Or.inr hS) (Or.inl ⟨by rfl, fun w _ => ?hyyd18_7⟩) ?restyd18_7
            case hyyd18_7 => (go_simp; try with_reducible rfl)
            try simp only [Act.put, List.setIfInBounds_toArray, List.set_cons_zero, List.set_cons_succ]
            refine Left.pure (i := 8) (v := ?vyd18_8) rfl (by kernel_rfl) (fun _ _ _ h => h) (Or.inr hS) (Or.inl ⟨by rfl, fun w _ => ?hyyd18_8⟩) ?restyd18_8
            case hyyd18_8 => (go_simp; try with_reducible rfl)
            try simp only [Act.put, List.setIfInBounds_toArray, List.set_cons_zero, List.set_cons_succ]
            refine Left.take (i := 9) (v := ?vyd18_9) rfl (by kernel_rfl) (fun _ _ _ h => h) hS (Or.inl ⟨by rfl, fun w hSw => ?hyyd18_9⟩) ?restyd18_9
            case hyyd18_9 => ((try dsimp only at hSw); go_simp; try with_reducible rfl)
            try simp only [Act.put, List.setIfInBounds_toArray, List.set_cons_zero, List.set_cons_succ]
            refine Left.pure (i := 10) (v := ?vyd18_10) rfl (by kernel_rfl) (fun _ _ _ h => h) (Or.inr hS) (Or.inl ⟨by rfl, fun w _ => ?hyyd18_10⟩) ?restyd18_10
            case hyyd18_10 => (go_simp; try with_reducible rfl)
            try simp only [Act.put, List.setIfInBounds_toArray, List.set_cons_zero, List.set_cons_succ]
            refine Left.run (i := 11) rfl (by kernel_rfl) (fun K hK => ?_)
            go_simp
            go_at_call 24
            refine (each_acked p bt v s1 v.vt s1.tasks 1 s1.under _ w0 _ O6.out (fun w' h => CoV.tasks h) hte.out (fun w' h => h.at2.cellOf 0 rfl)).mono ?_
            rintro e w14 ⟨A7, c7, rfl, H8⟩
            have hyl : Hid ((s1.tell 1 s1.under s1.tasks s1.acked).length ≤ 1000) := by show _ ≤ _; unfold Co.tell; rw [List.length_map]; exact Nat.le_trans (List.length_filter_le _ _) hte.out
            have hbd : Hid ((out.length + (s1.tell 1 s1.under s1.tasks s1.acked).length) * 32 ≤ 140737488355328) := by show _ ≤ _; have := hol.out; have := hyl.out; omega
            obtain ⟨ys, hys⟩ : ∃ ys, s1.tell 1 s1.under s1.tasks s1.acked = ys := ⟨_, rfl⟩
            rw [hys] at H8 hyl hbd hst ⊢
            replace hys := Lib.hid hys
            replace H8 := Lib.hid H8
            go_simp
            replace hS : (fun w' : World => w'.cell? ⟨bt, 0, none⟩ = some (.pointer (some ⟨p, 0, none⟩)) ∧ w'.cell? ⟨p, 0, none⟩ = some v.vt ∧ w'.cell? ⟨p, 10, none⟩ = some (.int .u64 s1.under)) w14 := by exact ⟨H8.out.at3.cellOf 0 rfl, CoV.cell (H8.out.at1) 0 rfl, CoV.cell (H8.out.at1) 10 rfl⟩
            refine hK.out _ _ (Or.inr hS) ?_
            clear hK K
            try simp only [Act.put, List.setIfInBounds_toArray, List.set_cons_zero, List.set_cons_succ]
            refine Left.run (i := 12) rfl (by kernel_rfl) (fun K hK => ?_)
            simp only [Act.put, List.getElem_toArray, List.getElem_cons_zero, List.getElem_cons_succ, List.setIfInBounds_toArray, List.set_cons_zero, List.set_cons_succ]
            rw [if_pos (by rfl)]
            refine wp_appendL (E := ECtl) (v := .slice Ao out.length co) (.tmp 170) (.tmp 181) 27 (by rfl) 32 _ 4 32 Try.underlying27 infoC rfl (by decide) (by decide) rfl (by rfl) (.slice A7 ys.length c7) (by rfl) H8.out.at2 H8.out.ls_rd hbd.out ?_
            intro A9 c9 w15 H9
            replace hS : (fun w' : World => w'.cell? ⟨bt, 0, none⟩ = some (.pointer (some ⟨p, 0, none⟩)) ∧ w'.cell? ⟨p, 0, none⟩ = some v.vt ∧ w'.cell? ⟨p, 10, none⟩ = some (.int .u64 s1.under)) w15 := by exact ⟨H9.at3.cellOf 0 rfl, CoV.cell (H9.at2) 0 rfl, CoV.cell (H9.at2) 10 rfl⟩
            refine hK.out _ _ (Or.inr hS) ?_
            clear hK K
            try simp only [Act.put, List.setIfInBounds_toArray, List.set_cons_zero, List.set_cons_succ]
            refine Left.run (i := 13) rfl (by kernel_rfl) (fun K hK => ?_)
            go_simp
            refine hK.out _ _ (Or.inl (by kernel_rfl)) ?_
            clear hK K
            try simp only [Act.put, List.setIfInBounds_toArray, List.set_cons_zero, List.set_cons_succ]
            refine Left.done (by kernel_rfl) ?_ _
            rw [← List.length_append] at H9 ⊢
            go_wp2_with fail
            go_ret
            rw [hst.out]
            exact ⟨A9, c9, by first | rfl | (show _ = Ending.returned (Value.slice A9 (out ++ ys).length c9); rw [List.length_append]; rfl), H9.at1.tail.at2.tail⟩
end
end Go.Proofs.Ythjinahfhpgpmaa

import Derived.Test.YthjinahfhpgpmaaPc
import Derived.Test.YthjinahfhpgpmaaProg
import Derived.Test.YthjinahfhpgpmaaLs
import Derived.Outline
import Derived.StillTailTactics
import Derived.Deep.DeepCutAuto
import Derived.Deep.CutBlock
import Derived.Deep.LoopGhost
import Derived.Deep.QuietTactic
import Derived.BigQuiet
import Derived.Deep.RegionHeld3
import Derived.Deep.RegionLaw
set_option linter.unusedVariables false
set_option linter.unusedSimpArgs false
namespace Go.Proofs.Ythjinahfhpgpmaa
open Go.RowKit
section
variable (p : Nat) (v : Vs) (s : Co) (w w0 : World) (R : List HP) (H : Hs w0 w (CoV p v s :: R))
include H
set_option maxRecDepth 100000 in
theorem begin_new (e fr la lm : Int) (hlen : s.tasks.length ≤ 1000) (he : s.epoch < e) (hlm : max s.last la = lm) :
    Calls Try.prog 11 #[.pointer (some ⟨p, 0, none⟩), .int .u64 e, .int .u64 fr, .int .u64 la] w fun ee w' => ∃ A c, ee = .returned (.slice A ((s.fresh e fr lm).tell 5 fr s.tasks nobody).length c) ∧
      Hs w0 w' (Ls ECtl 32 (.slice A ((s.fresh e fr lm).tell 5 fr s.tasks nobody).length c) ((s.fresh e fr lm).tell 5 fr s.tasks nobody) :: CoV p v (s.fresh e fr lm) :: R) := by
  have d4 : w.cell? ⟨p, 4, none⟩ = some (.int .u64 s.epoch) := CoV.cell H 4 rfl
  have d5 : w.cell? ⟨p, 5, none⟩ = some (.int .u64 s.from_) := CoV.cell H 5 rfl
  have d11 : w.cell? ⟨p, 11, none⟩ = some (.int .u64 s.durable) := CoV.cell H 11 rfl
  have d6 : w.cell? ⟨p, 6, none⟩ = some (.int .u64 s.last) := CoV.cell H 6 rfl
  have d10 : w.cell? ⟨p, 10, none⟩ = some (.int .u64 s.under) := CoV.cell H 10 rfl
  have d12 : w.cell? ⟨p, 12, none⟩ = some (.bool s.stored) := CoV.cell H 12 rfl
  have d13 : w.cell? ⟨p, 13, none⟩ = some (.int .i64 s.limit) := CoV.cell H 13 rfl
  have d14 : w.cell? ⟨p, 14, none⟩ = some (.int .i64 s.ticks) := CoV.cell H 14 rfl
  have d15 : w.cell? ⟨p, 15, none⟩ = some (.int .i64 s.began) := CoV.cell H 15 rfl
  have d16 : w.cell? ⟨p, 16, none⟩ = some (.int .i64 s.since) := CoV.cell H 16 rfl
  have f4 := CoV.free H 4
  have f5 := CoV.free H 5
  have f11 := CoV.free H 11
  have f6 := CoV.free H 6
  have f10 := CoV.free H 10
  have f12 := CoV.free H 12
  have f13 := CoV.free H 13
  have f14 := CoV.free H 14
  have f15 := CoV.free H 15
  have f16 := CoV.free H 16

  have d3 : w.cell? ⟨p, 3, none⟩ = some (.int .i64 s.timeout) := CoV.cell H 3 rfl
  have O := CoV.open_ H
  have O1 := Lib.hid ((((((((((O.setCell (i := 4) (.int .u64 e)).setCell (i := 5) (.int .u64 fr)).setCell (i := 11) (.int .u64 fr)).setCell (i := 6) (.int .u64 lm)).setCell (i := 10) (.int .u64 0)).setCell (i := 12) (.bool false)).setCell (i := 13) (.int .i64 s.timeout)).setCell (i := 14) (.int .i64 0)).setCell (i := 15) (.int .i64 0)).setCell (i := 16) (.int .i64 0))
  clear H O
  have he1 : ¬ e ≤ s.epoch := by omega
  rcases Int.lt_or_le s.last la with hlt | hlt
  all_goals
    first
      | (have hla : lm = la := by omega)
      | (have hla : lm = s.last := by omega
         have hlt1 : ¬ s.last < la := by omega)
    subst hla
    clear hlm
    go_enter Try.func11, Try.ntmps11
    go_upto_region 7 with (fail)
    generalize World.setCell _ _ _ = w1 at O1 ⊢
    simp only [coCells, List.setIfInBounds_toArray, List.set_cons_zero, List.set_cons_succ] at O1
    clear d4 f4 d5 f5 d11 f11 d6 f6 d10 f10 d12 f12 d13 f13 d14 f14 d15 f15 d16 f16 d3
    replace O1 := O1.out
    have k7 : w1.cell? ⟨p, 7, none⟩ = some (.map (some v.m1)) := O1.cellOf 7 rfl
    obtain ⟨w2, hr2, O2⟩ := O1.at3.mf_clear (P := Try.prog) 48 3 4 0 Try.underlying48
    have k8 : w2.cell? ⟨p, 8, none⟩ = some (.map (some v.m2)) := O2.at1.cellOf 8 rfl
    obtain ⟨w3, hr3, O3⟩ := O2.at4.mf_clear (P := Try.prog) 48 3 4 0 Try.underlying48
    have k9 : w3.cell? ⟨p, 9, none⟩ = some (.map (some v.m3)) := O3.at2.cellOf 9 rfl
    obtain ⟨w4, hr4, O4⟩ := O3.at5.mf_clear (P := Try.prog) 49 3 29 0 Try.underlying49
    have k0 : w4.cell? ⟨p, 0, none⟩ = some v.vt := O4.at3.cellOf 0 rfl
    have O5 := Lib.hid (CoV.mk_ (p := p) (v := v) (s := s.fresh e fr _) O4.at1.at2.at5.at5.at5)
    clear O1 O2 O3 O4
    go_wp2_with fail
    refine (each_none p 0 v (s.fresh e fr _) v.vt s.tasks 5 fr w4 w0 R O5.out (fun w' h => by have := CoV.tasks h; exact this) hlen (fun _ _ => trivial)).mono ?_
    rintro ee w5 ⟨A, c, rfl, H6⟩
    go_wp2_with fail
    go_ret
    exact ⟨A, c, rfl, H6⟩
theorem begin11 (e fr la : Int) (hlen : s.tasks.length ≤ 1000) :
    Calls Try.prog 11 #[.pointer (some ⟨p, 0, none⟩), .int .u64 e, .int .u64 fr, .int .u64 la] w fun ee w' => ∃ A c, ee = .returned (.slice A (s.begin e fr la).2.length c) ∧
      Hs w0 w' (Ls ECtl 32 (.slice A (s.begin e fr la).2.length c) (s.begin e fr la).2 :: CoV p v (s.begin e fr la).1 :: R) := by
  unfold Co.begin
  by_cases he : e ≤ s.epoch
  · rw [if_pos he]
    have d4 : w.cell? ⟨p, 4, none⟩ = some (.int .u64 s.epoch) := CoV.cell H 4 rfl
    have H1 := Lib.hid (H.ls_nil ECtl 32)
    clear H
    go_enter Try.func11, Try.ntmps11
    go_wp2_with fail
    go_ret
    exact ⟨none, 0, rfl, H1.out⟩
  · rw [if_neg he]
    exact begin_new p v s w w0 R H e fr la _ hlen (by omega) rfl
theorem stored15 (n : Int) (ok : Bool) (hlen : s.sinks.length ≤ 1000) :
    Calls Try.prog 15 #[.pointer (some ⟨p, 0, none⟩), .int .u64 n, .bool ok] w fun ee w' => ∃ A c, ee = .returned (.slice A (s.store n ok).2.length c) ∧
      Hs w0 w' (Ls ECtl 32 (.slice A (s.store n ok).2.length c) (s.store n ok).2 :: CoV p v (s.store n ok).1 :: R) := by
  unfold Co.store
  have k12 : w.cell? ⟨p, 12, none⟩ = some (.bool s.stored) := CoV.cell H 12 rfl
  have k10 : w.cell? ⟨p, 10, none⟩ = some (.int .u64 s.under) := CoV.cell H 10 rfl
  cases hst : s.stored with
  | false =>
    rw [hst] at k12
    rw [if_pos (.inl rfl)]
    have H1 := Lib.hid (H.ls_nil ECtl 32)
    clear H hst
    go_enter Try.func15, Try.ntmps15
    go_wp2_with fail
    go_ret
    exact ⟨none, 0, rfl, H1.out⟩
  | true =>
    rw [hst] at k12
    replace hst := Lib.hid hst
    by_cases hn : n = s.under
    · subst hn
      rw [if_neg (by simp)]
      have f10 := CoV.free H 10
      have f12 := CoV.free H 12
      have O := CoV.open_ H
      cases ok with
      | false =>
        simp only [Bool.false_eq_true, if_false]
        have O1 := Lib.hid ((O.setCell (i := 10) (.int .u64 0)).setCell (i := 12) (.bool false))
        clear H O
        go_enter Try.func15, Try.ntmps15
        go_wp2_with fail
        go_ret
        exact ⟨none, 0, rfl, (CoV.mk_ (s := { s with under := 0, stored := false }) O1.out).ls_nil ECtl 32⟩
      | true =>
        simp only [if_true]
        have d3 : w.cell? ⟨p, 3, none⟩ = some (.int .i64 s.timeout) := CoV.cell H 3 rfl
        have d11 : w.cell? ⟨p, 11, none⟩ = some (.int .u64 s.durable) := CoV.cell H 11 rfl
        have d13 : w.cell? ⟨p, 13, none⟩ = some (.int .i64 s.limit) := CoV.cell H 13 rfl
        have f11 := CoV.free H 11
        have f13 := CoV.free H 13
        have O1 := Lib.hid ((((O.setCell (i := 10) (.int .u64 0)).setCell (i := 12) (.bool false)).setCell (i := 11) (.int .u64 s.under)).setCell (i := 13) (.int .i64 s.timeout))
        clear H O
        go_enter Try.func15, Try.ntmps15
        go_upto_region 7 with (fail)
        generalize World.setCell _ _ _ = w1 at O1 ⊢
        simp only [coCells, List.setIfInBounds_toArray, List.set_cons_zero, List.set_cons_succ] at O1
        clear k12 k10 f10 f12 d3 d11 d13 f11 f13
        replace O1 := O1.out
        have k9 : w1.cell? ⟨p, 9, none⟩ = some (.map (some v.m3)) := O1.cellOf 9 rfl
        obtain ⟨w4, hr4, O4⟩ := O1.at5.mf_clear (P := Try.prog) 49 3 29 0 Try.underlying49
        have k1 : w4.cell? ⟨p, 1, none⟩ = some v.vs := O4.at1.cellOf 1 rfl
        have O5 := Lib.hid (CoV.mk_ (p := p) (v := v) (s := s.put s.under) O4.at5.at5.at5.at5.at5)
        clear O1 O4
        go_wp2_with fail
        refine (each_none p 0 v (s.put s.under) v.vs s.sinks 3 s.under w4 w0 R O5.out (fun w' h => by have := CoV.sinks h; exact this) hlen (fun _ _ => trivial)).mono ?_
        rintro ee w5 ⟨A, c, rfl, H6⟩
        go_wp2_with fail
        go_ret
        exact ⟨A, c, rfl, H6⟩
    · rw [if_pos (.inr hn)]
      have hnb : (n != s.under) = true := by rw [bne_iff_ne]; exact hn
      have H1 := Lib.hid (H.ls_nil ECtl 32)
      clear H hn
      go_enter Try.func15, Try.ntmps15
      go_wp2_with fail
      go_ret
      exact ⟨none, 0, rfl, H1.out⟩
end
end Go.Proofs.Ythjinahfhpgpmaa

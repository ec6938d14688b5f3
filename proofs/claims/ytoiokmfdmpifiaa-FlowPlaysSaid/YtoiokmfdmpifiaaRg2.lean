import Derived.Test.YtoiokmfdmpifiaaRf
import Derived.Test.YtoiokmfdmpifiaaProg
import Derived.Test.YtoiokmfdmpifiaaLs
import Derived.Outline
import Derived.StillTailTactics
import Derived.Deep.DeepCutAuto
import Derived.Deep.CutBlock
import Derived.Deep.LoopGhost
import Derived.Deep.QuietTactic
import Derived.BigQuiet
import Derived.Deep.RegionHeld3
import Derived.Deep.RegionLaw
set_option linter.unusedVariables false
set_option linter.unusedSimpArgs false
namespace Go.Proofs.Ytoiokmfdmpifiaa
open Go.RowKit
theorem Hs.setCellTo {b : Nat} {cs : Array Value} {t : TypeId} {w0 w : World} {R : List HP} (H : Hs w0 w (Blk b (.cells cs t (0, 0)) :: R)) (i : Nat) (v : Value) (cs' : Array Value) (h : cs.setIfInBounds i v = cs') : Hs w0 (w.setCell ⟨b, i, none⟩ v) (Blk b (.cells cs' t (0, 0)) :: R) := h ▸ H.setCell v
theorem ref_credits39 (p : Nat) (s : Ch Int) (w w0 : World) (R : List HP) (H : Hs w0 w (RefC p s :: R)) (hs : s.Ok) :
    Calls Try.prog 39 #[.pointer (some ⟨p, 0, none⟩)] w fun e w' => e = .returned (.int .i64 s.cred) ∧ ∃ m, w' = w.drewN m := by
  obtain ⟨A0, k0, A1, k1, A2, k2, A3, k3, H⟩ := RefC.open_ H
  have c1 : w.cell? ⟨p, 1, none⟩ = some (.slice A1 s.mov.length k1) := H.cellOf 1 rfl
  have c2 : w.cell? ⟨p, 2, none⟩ = some (.slice A2 s.wait.length k2) := H.cellOf 2 rfl
  have c6 : w.cell? ⟨p, 6, none⟩ = some (.int .i64 s.cr) := H.cellOf 6 rfl
  obtain ⟨h1, h2, h3, h4, h5⟩ := hs
  have e1 : IntKind.i64.wrap (s.cr - (s.mov.length : Int)) = s.cr - s.mov.length := IntWalk.i64_in _ (by omega)
  have e2 : IntKind.i64.wrap (s.cr - (s.mov.length : Int) - (s.wait.length : Int)) = s.cr - s.mov.length - s.wait.length := IntWalk.i64_in _ (by omega)
  clear H h1 h2 h3 h4 h5
  go_enter Try.func39, Try.ntmps39
  go_wp2_with fail
  go_quiet (fail)
  go_wp2_with fail
  go_ret
  exact ⟨rfl, _, rfl⟩
theorem ref_epoch40 (p : Nat) (s : Ch Int) (w w0 : World) (R : List HP) (H : Hs w0 w (RefC p s :: R)) :
    Calls Try.prog 40 #[.pointer (some ⟨p, 0, none⟩)] w fun e w' => e = .returned (.int .u64 s.ep) ∧ w = w' := by
  obtain ⟨A0, k0, A1, k1, A2, k2, A3, k3, H⟩ := RefC.open_ H
  have c5 : w.cell? ⟨p, 5, none⟩ = some (.int .u64 s.ep) := H.cellOf 5 rfl
  go_enter Try.func40, Try.ntmps40
  go_wp2_with fail
  go_ret
  exact ⟨rfl, rfl⟩
theorem ref_offer31 (p : Nat) (s : Ch Int) (x : Int) (w w0 : World) (R : List HP) (H : Hs w0 w (RefC p s :: R)) (hs : s.Ok) :
    Calls Try.prog 31 #[.pointer (some ⟨p, 0, none⟩), .int .i64 x] w fun e w' => e = .returned (.tuple #[]) ∧ Hs w0 w' (RefC p (s.offer x) :: R) := by
  obtain ⟨A0, k0, A1, k1, A2, k2, A3, k3, H⟩ := RefC.open_ H
  have c0 : w.cell? ⟨p, 0, none⟩ = some (.slice A0 s.back.length k0) := H.cellOf 0 rfl
  have hb := hs.b
  go_enter Try.func31, Try.ntmps31
  go_wp2_with (go_at_call 65; refine (add65 _ s.back x _ _ _ H.at1 (by omega)).mono ?_)
  rintro e w1 ⟨A, cp, rfl, H1⟩
  replace H1 := H1.at1
  have d0 := H1.cellOf 0 rfl
  have f0 := H1.frozenOf 0
  clear c0
  go_wp2_with fail
  go_end0
  exact ⟨rfl, RefC.mk_ (H1.setCell (i := 0) _)⟩
set_option maxRecDepth 100000 in
theorem ref_take34 (p : Nat) (s : Ch Int) (w w0 : World) (R : List HP) (H : Hs w0 w (RefC p s :: R)) :
    Calls Try.prog 34 #[.pointer (some ⟨p, 0, none⟩)] w fun e w' => e = .returned (.tuple #[.int .i64 (s.wait.headD 0), .bool (!s.wait.isEmpty)]) ∧ Hs w0 w' (RefC p s.take :: R) := by
  have HC := Lib.hid H
  obtain ⟨A0, k0, A1, k1, A2, k2, A3, k3, H⟩ := RefC.open_ H
  have c2 : w.cell? ⟨p, 2, none⟩ = some (.slice A2 s.wait.length k2) := H.cellOf 2 rfl
  cases hl : s.wait with
  | nil =>
    rw [hl] at c2
    simp only [List.length_nil] at c2
    have ht : Hid (s.take = s) := by show _ = _; unfold Ch.take; rw [hl]; cases s; simp at hl; subst hl; rfl
    clear hl H
    go_enter Try.func34, Try.ntmps34
    go_wp2_with fail
    go_ret2
    rw [ht.out]
    exact ⟨rfl, HC.out⟩
  | cons x r =>
    rw [hl] at H c2
    simp only [List.length_cons] at c2 H
    have hk1 := H.at3.ls_rd.caps.2.1
    obtain ⟨g, off, rfl⟩ := H.at3.ls_rd.some_ (by simp)
    have hx : w.cell? ⟨g, off, none⟩ = some (.int .i64 x) := H.at3.ls_rd.cell (i := 0) rfl 0 rfl
    obtain ⟨B, hB, hcut⟩ := cut_tail Try.prog 48 3 1 Try.underlying48 (by kernel_rfl) (some ⟨g, off, none⟩) r.length k2
    have H1 := H.at3.ls_tail (n := r.length + 1) (m := r.length) rfl rfl hB
    have hw : Hid (s.take = { s with wait := r }) := by show _ = _; unfold Ch.take; rw [hl]; rfl
    replace H1 := H1.at1
    have f2 := H1.frozenOf 2
    clear hl hB H
    replace H1 := Lib.hid H1
    have hk : (1 : Int) ≤ (k2 : Int) := by omega
    have hnz : ((r.length : Int) + 1 == 0) = false := by rw [beq_eq_false_iff_ne]; omega
    go_enter Try.func34, Try.ntmps34
    go_wp2_with fail
    go_ret2
    rw [hw.out]
    exact ⟨rfl, RefC.mk_ (H1.out.setCell (i := 2) (.slice B r.length (k2 - 1))).at3.at3.at2⟩
theorem ref_kill38 (p : Nat) (s : Ch Int) (n : Int) (w w0 : World) (R : List HP) (H : Hs w0 w (RefC p s :: R)) :
    Calls Try.prog 38 #[.pointer (some ⟨p, 0, none⟩), .int .u64 n] w fun e w' => e = .returned (.tuple #[]) ∧ Hs w0 w' (RefC p (s.kill n) :: R) := by
  obtain ⟨A0, k0, A1, k1, A2, k2, A3, k3, H⟩ := RefC.open_ H
  have c0 := H.cellOf 0 rfl
  have c1 := H.cellOf 1 rfl
  have c2 := H.cellOf 2 rfl
  have c3 := H.cellOf 3 rfl
  have c4 := H.cellOf 4 rfl
  have c5 := H.cellOf 5 rfl
  have c7 := H.cellOf 7 rfl
  have f0 := H.frozenOf 0
  have f1 := H.frozenOf 1
  have f2 := H.frozenOf 2
  have f3 := H.frozenOf 3
  have f4 := H.frozenOf 4
  have f5 := H.frozenOf 5
  have f7 := H.frozenOf 7
  have H4 := H.at1.drop.at1.drop.at1.drop.at1.drop
  clear H
  rcases Int.lt_or_le s.ep n with h | h
  all_goals
    first
      | have hkep : (s.kill n).ep = n := by show max s.ep n = n; omega
      | have hkep : (s.kill n).ep = s.ep := by show max s.ep n = s.ep; omega
    replace hkep := Lib.hid hkep
    go_enter Try.func38, Try.ntmps38
    go_wp2_with fail
    go_end0
    refine ⟨rfl, RefC.mk_ (v0 := .slice none 0 0) (v1 := .slice none 0 0) (v2 := .slice none 0 0) (v3 := .slice none 0 0) ?_⟩
    rw [hkep.out]
  · have H5 := H4
    replace H5 := H5.setCellTo 0 (.slice none 0 0) #[.slice none 0 0, .slice A1 s.mov.length k1, .slice A2 s.wait.length k2, .slice A3 s.mov.length k3, .int .u64 s.out, .int .u64 s.ep, .int .i64 s.cr, .int .u64 s.inn, .int .i64 s.gr] rfl
    replace H5 := H5.setCellTo 1 (.slice none 0 0) #[.slice none 0 0, .slice none 0 0, .slice A2 s.wait.length k2, .slice A3 s.mov.length k3, .int .u64 s.out, .int .u64 s.ep, .int .i64 s.cr, .int .u64 s.inn, .int .i64 s.gr] rfl
    replace H5 := H5.setCellTo 2 (.slice none 0 0) #[.slice none 0 0, .slice none 0 0, .slice none 0 0, .slice A3 s.mov.length k3, .int .u64 s.out, .int .u64 s.ep, .int .i64 s.cr, .int .u64 s.inn, .int .i64 s.gr] rfl
    replace H5 := H5.setCellTo 3 (.slice none 0 0) #[.slice none 0 0, .slice none 0 0, .slice none 0 0, .slice none 0 0, .int .u64 s.out, .int .u64 s.ep, .int .i64 s.cr, .int .u64 s.inn, .int .i64 s.gr] rfl
    replace H5 := H5.setCellTo 7 (.int .u64 1) #[.slice none 0 0, .slice none 0 0, .slice none 0 0, .slice none 0 0, .int .u64 s.out, .int .u64 s.ep, .int .i64 s.cr, .int .u64 1, .int .i64 s.gr] rfl
    replace H5 := H5.setCellTo 4 (.int .u64 1) #[.slice none 0 0, .slice none 0 0, .slice none 0 0, .slice none 0 0, .int .u64 1, .int .u64 s.ep, .int .i64 s.cr, .int .u64 1, .int .i64 s.gr] rfl
    replace H5 := H5.setCellTo 5 (.int .u64 n) #[.slice none 0 0, .slice none 0 0, .slice none 0 0, .slice none 0 0, .int .u64 1, .int .u64 n, .int .i64 s.cr, .int .u64 1, .int .i64 s.gr] rfl
    exact ((((H5.ls_nil (Enc.num .u64) 26).ls_nil (Enc.num .i64) 3).ls_nil (Enc.num .i64) 3).ls_nil (Enc.num .i64) 3).at4
  · have H5 := H4
    replace H5 := H5.setCellTo 0 (.slice none 0 0) #[.slice none 0 0, .slice A1 s.mov.length k1, .slice A2 s.wait.length k2, .slice A3 s.mov.length k3, .int .u64 s.out, .int .u64 s.ep, .int .i64 s.cr, .int .u64 s.inn, .int .i64 s.gr] rfl
    replace H5 := H5.setCellTo 1 (.slice none 0 0) #[.slice none 0 0, .slice none 0 0, .slice A2 s.wait.length k2, .slice A3 s.mov.length k3, .int .u64 s.out, .int .u64 s.ep, .int .i64 s.cr, .int .u64 s.inn, .int .i64 s.gr] rfl
    replace H5 := H5.setCellTo 2 (.slice none 0 0) #[.slice none 0 0, .slice none 0 0, .slice none 0 0, .slice A3 s.mov.length k3, .int .u64 s.out, .int .u64 s.ep, .int .i64 s.cr, .int .u64 s.inn, .int .i64 s.gr] rfl
    replace H5 := H5.setCellTo 3 (.slice none 0 0) #[.slice none 0 0, .slice none 0 0, .slice none 0 0, .slice none 0 0, .int .u64 s.out, .int .u64 s.ep, .int .i64 s.cr, .int .u64 s.inn, .int .i64 s.gr] rfl
    replace H5 := H5.setCellTo 7 (.int .u64 1) #[.slice none 0 0, .slice none 0 0, .slice none 0 0, .slice none 0 0, .int .u64 s.out, .int .u64 s.ep, .int .i64 s.cr, .int .u64 1, .int .i64 s.gr] rfl
    replace H5 := H5.setCellTo 4 (.int .u64 1) #[.slice none 0 0, .slice none 0 0, .slice none 0 0, .slice none 0 0, .int .u64 1, .int .u64 s.ep, .int .i64 s.cr, .int .u64 1, .int .i64 s.gr] rfl
    replace H5 := H5.setCellTo 5 (.int .u64 s.ep) #[.slice none 0 0, .slice none 0 0, .slice none 0 0, .slice none 0 0, .int .u64 1, .int .u64 s.ep, .int .i64 s.cr, .int .u64 1, .int .i64 s.gr] rfl
    exact ((((H5.ls_nil (Enc.num .u64) 26).ls_nil (Enc.num .i64) 3).ls_nil (Enc.num .i64) 3).ls_nil (Enc.num .i64) 3).at4
end Go.Proofs.Ytoiokmfdmpifiaa

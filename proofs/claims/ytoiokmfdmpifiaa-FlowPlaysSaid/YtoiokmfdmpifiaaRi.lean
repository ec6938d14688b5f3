import Derived.Test.YtoiokmfdmpifiaaRg2
import Derived.Test.YtoiokmfdmpifiaaPn
import Derived.Test.YtoiokmfdmpifiaaProg
import Derived.Test.YtoiokmfdmpifiaaLs
import Derived.Outline
import Derived.StillTailTactics
import Derived.Deep.DeepCutAuto
import Derived.Deep.CutBlock
import Derived.Deep.LoopGhost
import Derived.Deep.QuietTactic
import Derived.BigQuiet
import Derived.Deep.RegionHeld3
import Derived.Deep.RegionLaw
set_option linter.unusedVariables false
set_option linter.unusedSimpArgs false
namespace Go.Proofs.Ytoiokmfdmpifiaa
open Go.RowKit
theorem ref_arrive_old35 (p : Nat) (s : Ch Int) (ep q x : Int) (w w0 : World) (R : List HP) (H : Hs w0 w (RefC p s :: R)) (he : ep ≠ s.ep) :
    Calls Try.prog 35 #[.pointer (some ⟨p, 0, none⟩), .int .u64 ep, .int .u64 q, .int .i64 x] w fun e w' => e = .returned (.int .i64 62) ∧ w = w' := by
  obtain ⟨A0, k0, A1, k1, A2, k2, A3, k3, H⟩ := RefC.open_ H
  have c5 : w.cell? ⟨p, 5, none⟩ = some (.int .u64 s.ep) := H.cellOf 5 rfl
  have hne : (ep != s.ep) = true := by rw [bne_iff_ne]; exact he
  clear he
  go_enter Try.func35, Try.ntmps35
  go_wp2_with fail
  go_ret
  exact ⟨rfl, rfl⟩
theorem ref_arrive_seq35 (p : Nat) (s : Ch Int) (q x : Int) (w w0 : World) (R : List HP) (H : Hs w0 w (RefC p s :: R)) (hs : s.Ok) (hq : q ≠ s.inn ∨ s.cr ≤ s.wait.length) :
    Calls Try.prog 35 #[.pointer (some ⟨p, 0, none⟩), .int .u64 s.ep, .int .u64 q, .int .i64 x] w fun e w' => e = .returned (.int .i64 61) ∧ Hs w0 w' (RefC p s :: R) := by
  have HC := Lib.hid H
  obtain ⟨A0, k0, A1, k1, A2, k2, A3, k3, H⟩ := RefC.open_ H
  have c5 : w.cell? ⟨p, 5, none⟩ = some (.int .u64 s.ep) := H.cellOf 5 rfl
  have c7 : w.cell? ⟨p, 7, none⟩ = some (.int .u64 s.inn) := H.cellOf 7 rfl
  have c2 : w.cell? ⟨p, 2, none⟩ = some (.slice A2 s.wait.length k2) := H.cellOf 2 rfl
  have c6 : w.cell? ⟨p, 6, none⟩ = some (.int .i64 s.cr) := H.cellOf 6 rfl
  have hwb := hs.w
  clear H
  by_cases h : q = s.inn
  · subst h
    have hf : s.cr ≤ (s.wait.length : Int) := by rcases hq with h | h; (exact absurd rfl h); omega
    have hne : (s.inn != s.inn) = false := by simp
    have hd : decide (s.cr ≤ (s.wait.length : Int)) = true := by simpa using hf
    clear hq
    go_enter Try.func35, Try.ntmps35
    go_wp2_with fail
    go_quiet (fail)
    go_wp2_with fail
    go_ret
    exact ⟨rfl, HC.out.drewN _⟩
  · have hne : (q != s.inn) = true := by rw [bne_iff_ne]; exact h
    clear h hq
    go_enter Try.func35, Try.ntmps35
    go_wp2_with fail
    go_quiet (fail)
    go_wp2_with fail
    go_ret
    exact ⟨rfl, HC.out.drewN _⟩
set_option maxRecDepth 100000 in
theorem ref_arrive35 (p : Nat) (s : Ch Int) (x : Int) (w w0 : World) (R : List HP) (H : Hs w0 w (RefC p s :: R)) (hs : s.Ok) (hq : (s.wait.length : Int) < s.cr) :
    Calls Try.prog 35 #[.pointer (some ⟨p, 0, none⟩), .int .u64 s.ep, .int .u64 s.inn, .int .i64 x] w fun e w' => e = .returned (.int .i64 0) ∧ Hs w0 w' (RefC p { s with inn := IntKind.u64.wrap (s.inn + 1), wait := s.wait ++ [x], gr := max s.gr (s.wait.length + 1) } :: R) := by
  obtain ⟨A0, k0, A1, k1, A2, k2, A3, k3, H⟩ := RefC.open_ H
  have c5 : w.cell? ⟨p, 5, none⟩ = some (.int .u64 s.ep) := H.cellOf 5 rfl
  have c7 : w.cell? ⟨p, 7, none⟩ = some (.int .u64 s.inn) := H.cellOf 7 rfl
  have c2 : w.cell? ⟨p, 2, none⟩ = some (.slice A2 s.wait.length k2) := H.cellOf 2 rfl
  have c6 : w.cell? ⟨p, 6, none⟩ = some (.int .i64 s.cr) := H.cellOf 6 rfl
  have hwb := hs.w
  have hne : (s.inn != s.inn) = false := by simp
  have hd : decide (s.cr ≤ (s.wait.length : Int)) = false := by simp; omega
  replace H := Lib.hid H
  clear hq
  go_enter Try.func35, Try.ntmps35
  go_wp2_with fail
  go_quiet (fail)
  replace H := H.out.drewN (by assumption)
  generalize w.drewN _ = w1 at *
  have c7 : w1.cell? ⟨p, 7, none⟩ = some (.int .u64 s.inn) := H.cellOf 7 rfl
  have f7 := H.frozenOf 7
  have c2 : w1.cell? ⟨p, 2, none⟩ = some (.slice A2 s.wait.length k2) := H.cellOf 2 rfl
  have H1 := H.setCellTo 7 (.int .u64 (IntKind.u64.wrap (s.inn + 1))) #[.slice A0 s.back.length k0, .slice A1 s.mov.length k1, .slice A2 s.wait.length k2, .slice A3 s.mov.length k3, .int .u64 s.out, .int .u64 s.ep, .int .i64 s.cr, .int .u64 (IntKind.u64.wrap (s.inn + 1)), .int .i64 s.gr] rfl
  replace H1 := Lib.hid H1
  clear H
  go_wp2_with fail
  refine (add65 _ s.wait x _ w0 _ H1.out.at3 (by omega)).mono ?_
  rintro e w2 ⟨A4, k4, rfl, H2⟩
  replace H2 := H2.at1
  clear H1 c7 c2 f7
  have c2 := H2.cellOf 2 rfl
  have f2 := H2.frozenOf 2
  have H3 := H2.setCellTo 2 (.slice A4 (s.wait.length + 1) k4) #[.slice A0 s.back.length k0, .slice A1 s.mov.length k1, .slice A4 (s.wait.length + 1) k4, .slice A3 s.mov.length k3, .int .u64 s.out, .int .u64 s.ep, .int .i64 s.cr, .int .u64 (IntKind.u64.wrap (s.inn + 1)), .int .i64 s.gr] rfl
  replace H3 := Lib.hid H3
  clear H2
  go_wp2_with fail
  generalize w2.setCell _ _ = w3 at *
  have H3 := H3.out
  have c2 : w3.cell? ⟨p, 2, none⟩ = some (.slice A4 (s.wait.length + 1) k4) := H3.cellOf 2 rfl
  have c8 : w3.cell? ⟨p, 8, none⟩ = some (.int .i64 s.gr) := H3.cellOf 8 rfl
  rcases Int.lt_or_le s.gr ((s.wait.length : Int) + 1) with hg | hg
  all_goals
    first
      | have hmx : max s.gr ((s.wait.length : Int) + 1) = (s.wait.length : Int) + 1 := by omega
      | have hmx : max s.gr ((s.wait.length : Int) + 1) = s.gr := by omega
    replace hmx := Lib.hid hmx
    go_still_tail 13, mixed
    change wpList _ _ _ _ _ w3.drew
    replace H3 := H3.drew
    clear c2 c8
    generalize w3.drew = w4 at *
    have c8 := H3.cellOf 8 rfl
    have f8 := H3.frozenOf 8
    go_wp2_with fail
    go_ret
    refine ⟨rfl, ?_⟩
    rw [hmx.out]
  · exact RefC.mk_ (s := { s with inn := IntKind.u64.wrap (s.inn + 1), wait := s.wait ++ [x], gr := (s.wait.length : Int) + 1 }) (H3.setCellTo 8 (.int .i64 ((s.wait.length : Int) + 1)) #[.slice A0 s.back.length k0, .slice A1 s.mov.length k1, .slice A4 (s.wait.length + 1) k4, .slice A3 s.mov.length k3, .int .u64 s.out, .int .u64 s.ep, .int .i64 s.cr, .int .u64 (IntKind.u64.wrap (s.inn + 1)), .int .i64 ((s.wait.length : Int) + 1)] rfl).at3.at3.at2
  · exact RefC.mk_ (s := { s with inn := IntKind.u64.wrap (s.inn + 1), wait := s.wait ++ [x] }) (H3.setCellTo 8 (.int .i64 s.gr) #[.slice A0 s.back.length k0, .slice A1 s.mov.length k1, .slice A4 (s.wait.length + 1) k4, .slice A3 s.mov.length k3, .int .u64 s.out, .int .u64 s.ep, .int .i64 s.cr, .int .u64 (IntKind.u64.wrap (s.inn + 1)), .int .i64 s.gr] rfl).at3.at3.at2
theorem ref_arrives35 (p : Nat) (s : Ch Int) (e q x : Int) (w w0 : World) (R : List HP) (H : Hs w0 w (RefC p s :: R)) (hs : s.Ok) :
    Calls Try.prog 35 #[.pointer (some ⟨p, 0, none⟩), .int .u64 e, .int .u64 q, .int .i64 x] w fun r w' => r = .returned (.int .i64 (s.arr e q)) ∧ Hs w0 w' (RefC p (s.arrive e q x) :: R) := by
  unfold Ch.arrive Ch.arr
  by_cases he : e ≠ s.ep
  · rw [if_pos he, if_neg (by decide)]
    exact (ref_arrive_old35 p s e q x w w0 R H he).mono fun _ _ h => ⟨h.1, h.2 ▸ H⟩
  · rw [if_neg he]
    obtain rfl : e = s.ep := Decidable.not_not.1 he
    by_cases hq : q ≠ s.inn ∨ s.cr ≤ s.wait.length
    · rw [if_pos hq, if_neg (by decide)]
      exact ref_arrive_seq35 p s q x w w0 R H hs hq
    · rw [if_neg hq, if_pos rfl]
      obtain rfl : q = s.inn := Decidable.not_not.1 fun h => hq (.inl h)
      exact ref_arrive35 p s x w w0 R H hs (by omega)
end Go.Proofs.Ytoiokmfdmpifiaa

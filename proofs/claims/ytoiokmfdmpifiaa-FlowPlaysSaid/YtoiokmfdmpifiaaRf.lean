import Derived.Test.YtoiokmfdmpifiaaPl
import Derived.Test.YtoiokmfdmpifiaaDel
import Derived.Test.YtoiokmfdmpifiaaSx
import Derived.Test.YtoiokmfdmpifiaaProg
import Derived.Test.YtoiokmfdmpifiaaLs
import Derived.Outline
import Derived.StillTailTactics
import Derived.Deep.DeepCutAuto
import Derived.Deep.CutBlock
import Derived.Deep.LoopGhost
import Derived.Deep.QuietTactic
import Derived.BigQuiet
import Derived.Deep.RegionHeld3
import Derived.Deep.RegionLaw
set_option linter.unusedVariables false
set_option linter.unusedSimpArgs false
namespace Go.Proofs.Ytoiokmfdmpifiaa
open Go.RowKit
theorem info26 : (Try.prog.info? 26).map (fun i => (i.zero, i.size, i.bytes)) = some (some (.int .u64 0), 1, 8) := by kernel_rfl
/-- The reference's channel at block p. -/
def RefC (p : Nat) (s : Ch Int) : HP := Ex fun v0 => Ex fun v1 => Ex fun v2 => Ex fun v3 => Star (Blk p (.cells #[v0, v1, v2, v3, .int .u64 s.out, .int .u64 s.ep, .int .i64 s.cr, .int .u64 s.inn, .int .i64 s.gr] 58 (0, 0))) (Star (Ls (Enc.num .i64) 3 v0 s.back) (Star (Ls (Enc.num .i64) 3 v1 (s.mov.map (·.2.2))) (Star (Ls (Enc.num .i64) 3 v2 s.wait) (Ls (Enc.num .u64) 26 v3 (s.mov.map (·.2.1))))))
theorem RefC.open_ {p : Nat} {s : Ch Int} {w w0 : World} {R : List HP} (H : Hs w0 w (RefC p s :: R)) :
    ∃ A0 c0 A1 c1 A2 c2 A3 c3, Hs w0 w (Blk p (.cells #[.slice A0 s.back.length c0, .slice A1 s.mov.length c1, .slice A2 s.wait.length c2, .slice A3 s.mov.length c3, .int .u64 s.out, .int .u64 s.ep, .int .i64 s.cr, .int .u64 s.inn, .int .i64 s.gr] 58 (0, 0)) :: Ls (Enc.num .i64) 3 (.slice A0 s.back.length c0) s.back :: Ls (Enc.num .i64) 3 (.slice A1 s.mov.length c1) (s.mov.map (·.2.2)) :: Ls (Enc.num .i64) 3 (.slice A2 s.wait.length c2) s.wait :: Ls (Enc.num .u64) 26 (.slice A3 s.mov.length c3) (s.mov.map (·.2.1)) :: R) := by
  obtain ⟨v0, H⟩ := H.ex
  obtain ⟨v1, H⟩ := H.ex
  obtain ⟨v2, H⟩ := H.ex
  obtain ⟨v3, H⟩ := H.ex
  have H := H.part.at1.part.at1.part.at1.part
  obtain ⟨A2, c2, rfl⟩ := H.ls_form
  have H := H.at1
  obtain ⟨A3, c3, e3⟩ := H.ls_form
  rw [List.length_map] at e3
  subst e3
  have H := H.at2
  obtain ⟨A1, c1, e1⟩ := H.ls_form
  rw [List.length_map] at e1
  subst e1
  have H := H.at3
  obtain ⟨A0, c0, rfl⟩ := H.ls_form
  refine ⟨A0, c0, A1, c1, A2, c2, A3, c3, ?_⟩
  (refine Hs.conseq H fun h s => ?_; refine Sep.pickc (by first | with_reducible exact s | with_reducible exact s.at1 | with_reducible exact s.at2 | with_reducible exact s.at3 | with_reducible exact s.at4 | with_reducible exact s.at5 | with_reducible exact s.at6 | with_reducible exact s.at7) (fun h s => ?_); refine Sep.pickc (by first | with_reducible exact s | with_reducible exact s.at1 | with_reducible exact s.at2 | with_reducible exact s.at3 | with_reducible exact s.at4 | with_reducible exact s.at5 | with_reducible exact s.at6 | with_reducible exact s.at7) (fun h s => ?_); refine Sep.pickc (by first | with_reducible exact s | with_reducible exact s.at1 | with_reducible exact s.at2 | with_reducible exact s.at3 | with_reducible exact s.at4 | with_reducible exact s.at5 | with_reducible exact s.at6 | with_reducible exact s.at7) (fun h s => ?_); refine Sep.pickc (by first | with_reducible exact s | with_reducible exact s.at1 | with_reducible exact s.at2 | with_reducible exact s.at3 | with_reducible exact s.at4 | with_reducible exact s.at5 | with_reducible exact s.at6 | with_reducible exact s.at7) (fun h s => ?_); refine Sep.pickc (by first | with_reducible exact s | with_reducible exact s.at1 | with_reducible exact s.at2 | with_reducible exact s.at3 | with_reducible exact s.at4 | with_reducible exact s.at5 | with_reducible exact s.at6 | with_reducible exact s.at7) (fun h s => ?_); exact s)
theorem RefC.mk_ {p : Nat} {s : Ch Int} {v0 v1 v2 v3 : Value} {w w0 : World} {R : List HP} (H : Hs w0 w (Blk p (.cells #[v0, v1, v2, v3, .int .u64 s.out, .int .u64 s.ep, .int .i64 s.cr, .int .u64 s.inn, .int .i64 s.gr] 58 (0, 0)) :: Ls (Enc.num .i64) 3 v0 s.back :: Ls (Enc.num .i64) 3 v1 (s.mov.map (·.2.2)) :: Ls (Enc.num .i64) 3 v2 s.wait :: Ls (Enc.num .u64) 26 v3 (s.mov.map (·.2.1)) :: R)) : Hs w0 w (RefC p s :: R) := by
  have H1 := H.at4.at4.join
  have H2 : Hs w0 w (Star (Ls (Enc.num .i64) 3 v2 s.wait) (Ls (Enc.num .u64) 26 v3 (s.mov.map (·.2.1))) :: Blk p _ :: Ls (Enc.num .i64) 3 v0 s.back :: Ls (Enc.num .i64) 3 v1 (s.mov.map (·.2.2)) :: R) := H1
  exact (H2.at3.join.at2.join.at1.join).mono fun h hh => ⟨_, _, _, _, hh⟩
theorem ref_new30 (n ep : Int) (w w0 : World) (R : List HP) (H : Hs w0 w R) : Calls Try.prog 30 #[.int .i64 n, .int .u64 ep] w fun e w' => ∃ p, e = .returned (.pointer (some ⟨p, 0, none⟩)) ∧ Hs w0 w' (RefC p (Ch.fresh n ep) :: R) := by
  rcases (show n < 1 ∨ (1 ≤ n ∧ n ≤ 64) ∨ 64 < n by omega) with h | ⟨h1, h2⟩ | h
  all_goals
    first
      | have hm : min (max n 1) 64 = 1 := by omega
      | have hm : min (max n 1) 64 = n := by omega
      | have hm : min (max n 1) 64 = 64 := by omega
    replace hm := Lib.hid hm
    go_enter Try.func30, Try.ntmps30
    go_wp2_with fail
    go_ret
    refine ⟨_, rfl, RefC.mk_ (v0 := .slice none 0 0) (v1 := .slice none 0 0) (v2 := .slice none 0 0) (v3 := .slice none 0 0) ?_⟩
    unfold Ch.fresh
    rw [hm.out]
    exact ((((H.ls_nil (Enc.num .u64) 26).ls_nil (Enc.num .i64) 3).ls_nil (Enc.num .i64) 3).ls_nil (Enc.num .i64) 3).alloc _
theorem add65 (v : Value) (xs : List Int) (x : Int) (w w0 : World) (R : List HP) (H : Hs w0 w (Ls (Enc.num .i64) 3 v xs :: R)) (hb : xs.length ≤ 1000000) :
    Calls Try.prog 65 #[v, .int .i64 x] w fun e w' => ∃ A c, e = .returned (.slice A (xs.length + 1) c) ∧ Hs w0 w' (Ls (Enc.num .i64) 3 (.slice A (xs.length + 1) c) (xs ++ [x]) :: R) := by
  obtain ⟨A, c, rfl⟩ := H.ls_form
  obtain ⟨_, hc1, hc2⟩ := H.ls_rd.caps
  have H1 := H.ls_cap xs.length (Nat.le_refl _) hc1
  generalize hn : xs.length = n at *
  have hcut := cut_cap Try.prog 48 3 1 Try.underlying48 (by kernel_rfl) A n c hc1
  replace hn := Lib.hid hn
  go_enter Try.func65, Try.ntmps65
  go_wp2_with (at_builtin; refine wpList_append1N (E := Enc.num .i64) n hn.out rfl (.tmp 10) (.tmp 12) 48 rfl 3 _ 1 8 Try.underlying48 info54 rfl (by decide) (by decide) rfl rfl rfl (by simp) H1 x (by omega) ?_)
  intro A1 c1 w1 H2
  go_wp2_with fail
  go_ret
  exact ⟨_, _, rfl, H2⟩
end Go.Proofs.Ytoiokmfdmpifiaa

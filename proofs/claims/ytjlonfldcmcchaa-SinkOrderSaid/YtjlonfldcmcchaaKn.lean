import Derived.Test.YtjlonfldcmcchaaPf
import Derived.Test.YtjlonfldcmcchaaEq
import Derived.Test.YtjlonfldcmcchaaProg
import Derived.Test.YtjlonfldcmcchaaLs
import Derived.Outline
import Derived.StillTailTactics
import Derived.Deep.DeepCutAuto
import Derived.Deep.CutBlock
import Derived.Deep.LoopGhost
import Derived.Deep.QuietTactic
import Derived.BigQuiet
import Derived.Deep.RegionHeld3
import Derived.Deep.RegionLaw
set_option linter.unusedVariables false
set_option linter.unusedSimpArgs false
namespace Go.Proofs.Ytjlonfldcmcchaa
open Go.RowKit
/-- A log of one part. -/
def One (n : Int) (q : Pt) (all : List Rec) : Lg := ⟨upd (fun _ => ⟨[], 0⟩) n q, all⟩
theorem One.pt (n : Int) (q : Pt) (all : List Rec) : (One n q all).pt n = q := by simp [One, upd]
theorem upd_upd (f : Int → Pt) (n : Int) (a b : Pt) : upd (upd f n a) n b = upd f n b := by
  funext m
  unfold upd
  split <;> rfl
theorem One.put (n t : Int) (q : Pt) (all r : List Rec) : (One n q all).put n t r = One n ⟨q.l ++ [(t, r)], q.dn⟩ all := by
  unfold Lg.put
  rw [One.pt]
  unfold One
  simp only [upd_upd]
theorem One.commit (n t : Int) (q : Pt) (all : List Rec) : (One n q all).commit n t = One n ⟨q.l, q.dn + (q.fresh t).length⟩ (all ++ (q.fresh t).flatMap (·.2)) := by
  unfold Lg.commit
  rw [One.pt]
  unfold One
  simp only [upd_upd]
theorem One.abort (n t : Int) (q : Pt) (all : List Rec) : (One n q all).abort n t = One n ⟨q.l.take (cutAt q.l q.dn t q.l.length), q.dn⟩ all := by
  unfold Lg.abort
  rw [One.pt]
  unfold One
  simp only [upd_upd]
theorem One.none (n : Int) : (⟨fun _ => ⟨[], 0⟩, []⟩ : Lg) = One n ⟨[], 0⟩ [] := by
  unfold One
  congr 1
  funext m
  simp [upd]
theorem rec27 (n : Int) (w w0 : World) (R : List HP) (H : Hs w0 w R) : Calls Try.prog 27 #[.int .i64 n] w fun e w' => ∃ A c, e = .returned (.slice A 1 c) ∧ Hs w0 w' (Ls ERec 39 (.slice A 1 c) [(0, 0, n)] :: R) := by
  go_enter Try.func27, Try.ntmps27
  go_wp2_with fail
  go_ret
  exact ⟨_, _, rfl, H.ls_lit ERec 39 [(0, 0, n)] _ rfl 1 rfl (by omega)⟩
set_option maxRecDepth 100000 in
theorem known8 (w w0 : World) (R : List HP) (H : Hs w0 w R) : Calls Try.prog 8 #[] w fun e w' => e = .returned (.bool true) ∧ Hs w0 w' R := by
  go_enter Try.func8, Try.ntmps8
  go_wp2_with fail
  refine (new10 _ w0 R H).mono ?_
  rintro e w1 ⟨p, rfl, H⟩
  rw [One.none 0] at H
  go_wp2_with fail
  refine (rec27 1 _ w0 _ H).mono ?_
  rintro e w1 ⟨A1, k1, rfl, H⟩
  go_wp2_with fail
  refine (stage_ok p 0 1 _ [(0, 0, 1)] _ _ w0 _ H.at1 (fun w' h => h.ls_rd) (by decide) (by rw [One.pt]; unfold Pt.Ok; decide) (by decide) (by rw [One.pt]; decide)).mono ?_
  rintro e w1 ⟨rfl, H⟩
  replace H := H.at1.tail
  rw [One.put] at H
  go_wp2_with fail
  refine (rec27 2 _ w0 _ H).mono ?_
  rintro e w1 ⟨A1, k1, rfl, H⟩
  go_wp2_with fail
  refine (stage_ok p 0 2 _ [(0, 0, 2)] _ _ w0 _ H.at1 (fun w' h => h.ls_rd) (by decide) (by rw [One.pt]; unfold Pt.Ok; decide) (by decide) (by rw [One.pt]; decide)).mono ?_
  rintro e w1 ⟨rfl, H⟩
  replace H := H.at1.tail
  rw [One.put] at H
  go_wp2_with fail
  refine (commit_go p 0 1 _ _ w0 _ H (by rw [One.pt]; unfold Pt.Ok; decide) (by rw [One.pt]; decide) (by rw [One.pt]; decide) (by rw [One.pt]; decide)).mono ?_
  rintro e w1 ⟨rfl, H⟩
  rw [One.commit] at H
  replace H : Hs w0 w1 (Log p (One 0 ⟨[(1, [(0, 0, 1)]), (2, [(0, 0, 2)])], 1⟩ [(0, 0, 1)]) :: R) := H
  go_wp2_with fail
  refine (abort15 p 0 1 _ _ w0 _ H (by rw [One.pt]; unfold Pt.Ok; decide)).mono ?_
  rintro e w1 ⟨rfl, H⟩
  rw [One.abort] at H
  replace H : Hs w0 w1 (Log p (One 0 ⟨[(1, [(0, 0, 1)])], 1⟩ [(0, 0, 1)]) :: R) := H
  go_wp2_with fail
  refine (rec27 3 _ w0 _ H).mono ?_
  rintro e w1 ⟨A1, k1, rfl, H⟩
  go_wp2_with fail
  refine (stage_ok p 0 2 _ [(0, 0, 3)] _ _ w0 _ H.at1 (fun w' h => h.ls_rd) (by decide) (by rw [One.pt]; unfold Pt.Ok; decide) (by decide) (by rw [One.pt]; decide)).mono ?_
  rintro e w1 ⟨rfl, H⟩
  replace H := H.at1.tail
  rw [One.put] at H
  go_wp2_with fail
  refine (commit_go p 0 2 _ _ w0 _ H (by rw [One.pt]; unfold Pt.Ok; decide) (by rw [One.pt]; decide) (by rw [One.pt]; decide) (by rw [One.pt]; decide)).mono ?_
  rintro e w1 ⟨rfl, H⟩
  rw [One.commit] at H
  replace H : Hs w0 w1 (Log p (One 0 ⟨[(1, [(0, 0, 1)]), (2, [(0, 0, 3)])], 2⟩ [(0, 0, 1), (0, 0, 3)]) :: R) := H
  go_wp2_with fail
  refine (commit_old p 0 2 _ _ w0 _ H (by rw [One.pt]; unfold Pt.Ok; decide) (by rw [One.pt]; decide)).mono ?_
  rintro e w1 ⟨rfl, H⟩
  go_wp2_with fail
  refine (stage_no p 0 2 _ _ _ w0 _ H (by rw [One.pt]; unfold Pt.Ok; decide) (by decide) (by rw [One.pt]; decide)).mono ?_
  rintro e w1 ⟨rfl, H⟩
  go_wp2_with fail
  refine (commit_none p 0 5 _ _ w0 _ H (by rw [One.pt]; unfold Pt.Ok; decide) (by rw [One.pt]; decide) (by rw [One.pt]; decide)).mono ?_
  rintro e w1 ⟨rfl, H⟩
  go_wp2_with fail
  refine (all18 p _ _ w0 _ H (by decide)).mono ?_
  rintro e w1 ⟨A1, k1, rfl, H⟩
  go_wp2_with fail
  have H1 := (H.ls_lit ERec 39 [(0, 0, 1), (0, 0, 3)] _ rfl 2 rfl (by omega))
  refine (eqrec17 _ _ [(0, 0, 1), (0, 0, 3)] [(0, 0, 1), (0, 0, 3)] _ H1.at1.ls_rd H1.ls_rd).mono ?_
  rintro e w2 ⟨rfl, k, rfl⟩
  replace H := (H1.drewN k).tail.tail
  rw [decide_eq_true rfl]
  go_wp2_with fail
  refine (last_any p 0 _ _ w0 _ H (by rw [One.pt]; unfold Pt.Ok; decide)).mono ?_
  rw [show ((One 0 ⟨[(1, [(0, 0, 1)]), (2, [(0, 0, 3)])], 2⟩ [(0, 0, 1), (0, 0, 3)]).pt 0).last = 2 from by rw [One.pt]; decide]
  rintro e w2 ⟨rfl, H⟩
  go_wp2_with fail
  refine (staged22 p 0 _ _ w0 _ H (by rw [One.pt]; unfold Pt.Ok; decide)).mono ?_
  rw [show ((One 0 ⟨[(1, [(0, 0, 1)]), (2, [(0, 0, 3)])], 2⟩ [(0, 0, 1), (0, 0, 3)]).pt 0).staged = [] from by rw [One.pt]; decide]
  rintro e w2 ⟨A2, k2, rfl, H⟩
  go_wp2_with fail
  refine (upto24 p 0 1 _ _ w0 _ H.tail (by rw [One.pt]; unfold Pt.Ok; decide) (by rw [One.pt]; decide)).mono ?_
  rw [show ((One 0 ⟨[(1, [(0, 0, 1)]), (2, [(0, 0, 3)])], 2⟩ [(0, 0, 1), (0, 0, 3)]).pt 0).upto 1 = [(0, 0, 1)] from by rw [One.pt]; decide]
  rintro e w2 ⟨A3, k3, rfl, H⟩
  go_wp2_with fail
  go_ret
  exact ⟨rfl, H.tail.tail⟩
end Go.Proofs.Ytjlonfldcmcchaa

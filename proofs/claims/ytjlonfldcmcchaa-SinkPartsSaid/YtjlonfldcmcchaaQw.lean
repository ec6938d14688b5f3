import Derived.Test.YtjlonfldcmcchaaGw
import Derived.Test.YtjlonfldcmcchaaProg
import Derived.Test.YtjlonfldcmcchaaLs
import Derived.Outline
import Derived.StillTailTactics
import Derived.Deep.DeepCutAuto
import Derived.Deep.CutBlock
import Derived.Deep.LoopGhost
import Derived.Deep.QuietTactic
import Derived.BigQuiet
import Derived.Deep.RegionHeld3
import Derived.Deep.RegionLaw
set_option linter.unusedVariables false
set_option linter.unusedSimpArgs false
namespace Go.Proofs.Ytjlonfldcmcchaa
open Go.RowKit
theorem Lg.put_ne (s : Lg) (n t m : Int) (r : List Rec) (h : m ≠ n) : (s.put n t r).pt m = s.pt m := by simp [Lg.put, upd, h]
theorem Lg.stage_ne (s : Lg) (n t m : Int) (r : List Rec) (h : m ≠ n) : (s.stage n t r).pt m = s.pt m := by
  unfold Lg.stage
  split
  · rfl
  · exact s.put_ne n t m r h
theorem Lg.cm_ne (s : Lg) (n t m : Int) (h : m ≠ n) : (s.cm n t).pt m = s.pt m := by
  unfold Lg.cm
  split
  · rfl
  · split
    · simp [Lg.commit, upd, h]
    · rfl
theorem Lg.abort_ne (s : Lg) (n t m : Int) (h : m ≠ n) : (s.abort n t).pt m = s.pt m := by simp [Lg.abort, upd, h]
theorem Lg.stage_same (s s' : Lg) (n t : Int) (r : List Rec) (h : s.pt n = s'.pt n) : (s.stage n t r).pt n = (s'.stage n t r).pt n ∧ s.stE n t = s'.stE n t := by
  unfold Lg.stage Lg.stE
  rw [h]
  refine ⟨?_, rfl⟩
  split
  · exact h
  · simp [Lg.put, upd, h]
theorem Lg.cm_same (s s' : Lg) (n t : Int) (h : s.pt n = s'.pt n) : (s.cm n t).pt n = (s'.cm n t).pt n ∧ s.cmE n t = s'.cmE n t := by
  unfold Lg.cm Lg.cmE
  rw [h]
  refine ⟨?_, rfl⟩
  split
  · exact h
  · split
    · simp [Lg.commit, upd, h]
    · exact h
theorem Lg.abort_same (s s' : Lg) (n t : Int) (h : s.pt n = s'.pt n) : (s.abort n t).pt n = (s'.abort n t).pt n := by simp [Lg.abort, upd, h]
set_option maxRecDepth 100000 in
set_option maxHeartbeats 2000000 in
theorem sinkparts_walk (A : Option Addr) (n c : Nat) (ss : List (Int × Int × Int × Slc)) (w : World) (hr : RdL EStep w (.slice A n c) ss) (hok : ∀ x ∈ ss, StOk w x) :
    Calls Try.prog 5 #[.slice A n c] w fun e w' => e = .returned (.bool true) ∧ Below w.heap.size w w' := by
  have hcap := hr.caps.2
  have hn := Lib.hid hr.caps.1
  have hlight := light9 A n c ss
  have hok1 : ∀ x ∈ ss, x.2.2.2.2.1 * 24 ≤ reachBytes := fun x hx => (hok x hx).2.2.2.1
  replace hr := Lib.hid hr
  replace hok := Lib.hid hok
  replace hok1 := Lib.hid hok1
  replace hlight := Lib.hid hlight
  go_enter Try.func5, Try.ntmps5
  go_wp2_with fail
  refine (known8 w w _ (Hs.start w)).mono ?_
  rintro e w1 ⟨rfl, H⟩
  go_wp2_with fail
  refine (hlight.out w1 (hr.out.old H) hok1.out).mono ?_
  rintro e w2 ⟨b, rfl, rfl, hb⟩
  clear hlight
  cases b with
  | false =>
    go_wp2_with fail
    go_ret
    exact ⟨rfl, below_of H⟩
  | true =>
    obtain ⟨hn2, hsum⟩ := hb rfl
    clear hb
    replace hsum := Lib.hid hsum
    go_wp2_with fail
    refine (new10 _ w _ H).mono ?_
    rintro e w1 ⟨pa, rfl, H⟩
    go_wp2_with fail
    refine (new10 _ w _ H).mono ?_
    rintro e w1 ⟨pb, rfl, H⟩
    have H0 := Lib.hid H.at1
    clear H
    go_wp2_with fail
    go_loopg [5] n (fun k iv wr => ∃ (j : Nat) (sa sb : Lg), k + j = n ∧ iv = .int .i64 j ∧ Hid (sa.pt 1 = sb.pt 1) ∧ Hid (sa.Ok (wsum (ss.take j)) (j * 3000) ∧ sb.Ok (wsum (ss.take j)) (j * 3000)) ∧ Hid (Hs w wr [Log pa sa, Log pb sb, Old w]))
    case atStart => exact ⟨0, _, _, by omega, rfl, rfl, ⟨Lg.Ok.new.more (by omega) (by omega), Lg.Ok.new.more (by omega) (by omega)⟩, H0.out⟩
    case round =>
      clear H0
      obtain ⟨j, sa, sb, hk, rfl, hab, hsok, H⟩ := hrel
      have hjn : j ≤ n := by omega
      replace hk := Lib.hid hk
      rcases Nat.lt_or_ge j n with hj | hj
      · have hj0 : (0 : Int) ≤ (j : Int) := by omega
        have hj1 : (j : Int) < (n : Int) := by omega
        obtain ⟨x, hx⟩ : ∃ x, ss[j]? = some x := ⟨_, List.getElem?_eq_getElem (by have := hn.out; omega)⟩
        have hws := Lib.hid (wsum_snoc ss j x hx)
        have hwl := Lib.hid (wsum_take ss (j + 1))
        obtain ⟨z1, z2, z3, z4, rs, hrs⟩ := hok.out x (List.mem_of_getElem? hx)
        obtain ⟨b, pn, t, A2, m2, c2⟩ := x
        simp only at hws hwl z1 z2 z3 z4 hrs
        replace z3 := u64_ge z3
        have hrl := Lib.hid hrs.caps.1
        replace hrs := Lib.hid hrs
        have hrd := hr.out.old H.out.at2
        obtain ⟨g, off, rfl⟩ := hrd.some_ (by have := hn.out; omega)
        have s0 : wr.cell? ⟨g, off + j * 4, none⟩ = some (.int .i64 b) := hrd.cell hx 0 rfl
        have s1 : wr.cell? ⟨g, off + j * 4 + 1, none⟩ = some (.int .i64 pn) := hrd.cell hx 1 rfl
        have s2 : wr.cell? ⟨g, off + j * 4 + 2, none⟩ = some (.int .u64 t) := hrd.cell hx 2 rfl
        have s3 : wr.cell? ⟨g, off + j * 4 + 3, none⟩ = some (.slice A2 m2 c2) := hrd.cell hx 3 rfl
        replace hx := Lib.hid hx
        have hB : Hid (wsum (ss.take j) + 1 + m2 ≤ 3000) := by have := hws.out; have := hwl.out; have := hsum.out; show _ ≤ _; omega
        have hm2 : m2 ≤ 3000 := by have := hB.out; omega
        clear hrd
        have hfin : Hid (∀ (sa' sb' : Lg), sa'.Ok (wsum (ss.take j) + 1 + m2) (j * 3000 + 3000) → sb'.Ok (wsum (ss.take j) + 1 + m2) (j * 3000 + 3000) → sa'.Ok (wsum (ss.take (j + 1))) ((j + 1) * 3000) ∧ sb'.Ok (wsum (ss.take (j + 1))) ((j + 1) * 3000)) := fun sa' sb' h1 h2 => ⟨h1.more (by have := hws.out; omega) (by omega), h2.more (by have := hws.out; omega) (by omega)⟩
        go_upto_block 2 with (fail)
        clear s0 s1 s2 s3
        have H1 := H.out.alloc (.cells #[.int .i64 b, .int .i64 pn, .int .u64 t, .slice A2 m2 c2] 34)
        generalize wr.alloc _ = wa at *
        generalize wr.heap.size = bx at *
        have x1 : wa.cell? ⟨bx, 1, none⟩ = some (.int .i64 pn) := H1.cellOf 1 rfl
        have x2 : wa.cell? ⟨bx, 2, none⟩ = some (.int .u64 t) := H1.cellOf 2 rfl
        have x3 : wa.cell? ⟨bx, 3, none⟩ = some (.slice A2 m2 c2) := H1.cellOf 3 rfl
        clear H
        replace H1 := Lib.hid H1
        generalize hmb : (pn == 1) = mb
        replace hmb := Lib.hid hmb
        go_cut [7, 8] (fun ev fv wc => ∃ (sa' sb' : Lg) (e f : Int), ev = .int .i64 e ∧ fv = .int .i64 f ∧ Hid (sa'.pt 1 = sb'.pt 1) ∧ Hid (mb = true → e = f) ∧ Hid (sa'.Ok (wsum (ss.take j) + 1 + m2) (j * 3000 + 3000)) ∧ Hid (sb'.Ok (wsum (ss.take j) + 1 + m2) (j * 3000 + 3000)) ∧ Hid (Hs w wc [Log pa sa', Log pb sb', Old w]))
        case first =>
          rcases (show (b = 0 ∨ b = 1 ∨ b = 2) ∨ (b = 3 ∨ b = 4) ∨ b = 5 ∨ (b ≠ 0 ∧ b ≠ 1 ∧ b ≠ 2 ∧ b ≠ 3 ∧ b ≠ 4 ∧ b ≠ 5) by omega) with hb | hb | rfl | hb
          · cases mb
            case true =>
              have hp : Hid (pn = 1) := by have h := hmb.out; show _; simpa [Hid] using h
              obtain ⟨g1, g2⟩ : Hid ((sa.stage pn t rs).pt 1 = (sb.stage pn t rs).pt 1) ∧ Hid (sa.stE pn t = sb.stE pn t) := by
                have h := hp.out
                subst h
                exact Lg.stage_same sa sb 1 t rs hab.out
              rcases hb with rfl | rfl | rfl
              all_goals
                go_wp2_with fail
                refine (stage_tot pa pn t sa _ _ _ w _ H1.out.at1 hsok.out.1 (by have := hB.out; omega) (.slice A2 m2 c2) rs (fun w' h => hrs.out.old h.at2) (by have := hrl.out; omega) z3).mono ?_
                rintro e w3 ⟨rfl, H2⟩
                have x1 : w3.cell? ⟨bx, 1, none⟩ = some (.int .i64 pn) := H2.at1.cellOf 1 rfl
                have x2 : w3.cell? ⟨bx, 2, none⟩ = some (.int .u64 t) := H2.at1.cellOf 2 rfl
                have x3 : w3.cell? ⟨bx, 3, none⟩ = some (.slice A2 m2 c2) := H2.at1.cellOf 3 rfl
                replace H2 := Lib.hid H2
                clear H1
                go_wp2_with fail
                refine (stage_tot pb pn t sb _ _ _ w _ H2.out.at2 hsok.out.2 (by have := hB.out; omega) (.slice A2 m2 c2) rs (fun w' h => hrs.out.old h.at2) (by have := hrl.out; omega) z3).mono ?_
                rintro e w4 ⟨rfl, H3⟩
                replace H3 := Lib.hid H3
                clear H2
                go_wp2_with fail
                go_meet
                case rel => exact ⟨sa.stage pn t rs, sb.stage pn t rs, _, _, rfl, rfl, g1, fun _ => g2.out, (hsok.out.1.stage pn t rs).more (by have := hrl.out; omega) (by omega), (hsok.out.2.stage pn t rs).more (by have := hrl.out; omega) (by omega), H3.out.at2.tail.at1⟩
            case false =>
              have hp : Hid (¬ pn = 1) := by have h := hmb.out; show _; simpa [Hid] using h
              have g1 := Lib.hid ((Lg.stage_ne sa pn t 1 rs (fun h => hp.out h.symm)).trans hab.out)
              rcases hb with rfl | rfl | rfl
              all_goals
                go_wp2_with fail
                refine (stage_tot pa pn t sa _ _ _ w _ H1.out.at1 hsok.out.1 (by have := hB.out; omega) (.slice A2 m2 c2) rs (fun w' h => hrs.out.old h.at2) (by have := hrl.out; omega) z3).mono ?_
                rintro e w3 ⟨rfl, H2⟩
                replace H2 := Lib.hid H2
                clear H1
                go_wp2_with fail
                go_meet
                case rel => exact ⟨sa.stage pn t rs, sb, sa.stE pn t, 0, rfl, rfl, g1, (fun h => by cases h), (hsok.out.1.stage pn t rs).more (by have := hrl.out; omega) (by omega), hsok.out.2.more (by omega) (by omega), H2.out.at1.tail⟩
          · cases mb
            case true =>
              have hp : Hid (pn = 1) := by have h := hmb.out; show _; simpa [Hid] using h
              obtain ⟨g1, g2⟩ : Hid ((sa.cm pn t).pt 1 = (sb.cm pn t).pt 1) ∧ Hid (sa.cmE pn t = sb.cmE pn t) := by
                have h := hp.out
                subst h
                exact Lg.cm_same sa sb 1 t hab.out
              rcases hb with rfl | rfl
              all_goals
                go_wp2_with fail
                refine (commit_tot pa pn t sa _ _ _ w _ H1.out.at1 hsok.out.1 (by have := hB.out; omega) (by omega)).mono ?_
                rintro e w3 ⟨rfl, H2⟩
                have x1 : w3.cell? ⟨bx, 1, none⟩ = some (.int .i64 pn) := H2.at1.cellOf 1 rfl
                have x2 : w3.cell? ⟨bx, 2, none⟩ = some (.int .u64 t) := H2.at1.cellOf 2 rfl
                replace H2 := Lib.hid H2
                clear H1
                go_wp2_with fail
                refine (commit_tot pb pn t sb _ _ _ w _ H2.out.at2 hsok.out.2 (by have := hB.out; omega) (by omega)).mono ?_
                rintro e w4 ⟨rfl, H3⟩
                replace H3 := Lib.hid H3
                clear H2
                go_wp2_with fail
                go_meet
                case rel => exact ⟨sa.cm pn t, sb.cm pn t, _, _, rfl, rfl, g1, fun _ => g2.out, (hsok.out.1.cm pn t).more (by omega) (by have := hB.out; omega), (hsok.out.2.cm pn t).more (by omega) (by have := hB.out; omega), H3.out.at2.tail.at1⟩
            case false =>
              have hp : Hid (¬ pn = 1) := by have h := hmb.out; show _; simpa [Hid] using h
              have g1 := Lib.hid ((Lg.cm_ne sa pn t 1 (fun h => hp.out h.symm)).trans hab.out)
              rcases hb with rfl | rfl
              all_goals
                go_wp2_with fail
                refine (commit_tot pa pn t sa _ _ _ w _ H1.out.at1 hsok.out.1 (by have := hB.out; omega) (by omega)).mono ?_
                rintro e w3 ⟨rfl, H2⟩
                replace H2 := Lib.hid H2
                clear H1
                go_wp2_with fail
                go_meet
                case rel => exact ⟨sa.cm pn t, sb, sa.cmE pn t, 0, rfl, rfl, g1, (fun h => by cases h), (hsok.out.1.cm pn t).more (by omega) (by have := hB.out; omega), hsok.out.2.more (by omega) (by omega), H2.out.at1.tail⟩
          · cases mb
            case true =>
              have hp : Hid (pn = 1) := by have h := hmb.out; show _; simpa [Hid] using h
              have g1 : Hid ((sa.abort pn t).pt 1 = (sb.abort pn t).pt 1) := by
                have h := hp.out
                subst h
                exact Lg.abort_same sa sb 1 t hab.out
              go_wp2_with fail
              refine (abort_tot pa pn t sa _ _ _ w _ H1.out.at1 hsok.out.1 (by have := hB.out; omega)).mono ?_
              rintro e w3 ⟨rfl, H2⟩
              have x1 : w3.cell? ⟨bx, 1, none⟩ = some (.int .i64 pn) := H2.at1.cellOf 1 rfl
              have x2 : w3.cell? ⟨bx, 2, none⟩ = some (.int .u64 t) := H2.at1.cellOf 2 rfl
              replace H2 := Lib.hid H2
              clear H1
              go_wp2_with fail
              refine (abort_tot pb pn t sb _ _ _ w _ H2.out.at2 hsok.out.2 (by have := hB.out; omega)).mono ?_
              rintro e w4 ⟨rfl, H3⟩
              replace H3 := Lib.hid H3
              clear H2
              go_wp2_with fail
              go_meet
              case rel => exact ⟨sa.abort pn t, sb.abort pn t, _, _, rfl, rfl, g1, fun _ => rfl, (hsok.out.1.abort pn t).more (by omega) (by omega), (hsok.out.2.abort pn t).more (by omega) (by omega), H3.out.at2.tail.at1⟩
            case false =>
              have hp : Hid (¬ pn = 1) := by have h := hmb.out; show _; simpa [Hid] using h
              have g1 := Lib.hid ((Lg.abort_ne sa pn t 1 (fun h => hp.out h.symm)).trans hab.out)
              go_wp2_with fail
              refine (abort_tot pa pn t sa _ _ _ w _ H1.out.at1 hsok.out.1 (by have := hB.out; omega)).mono ?_
              rintro e w3 ⟨rfl, H2⟩
              replace H2 := Lib.hid H2
              clear H1
              go_wp2_with fail
              go_meet
              case rel => exact ⟨sa.abort pn t, sb, 0, 0, rfl, rfl, g1, fun _ => rfl, (hsok.out.1.abort pn t).more (by omega) (by omega), hsok.out.2.more (by omega) (by omega), H2.out.at1.tail⟩
          · go_wp2_with fail
            go_meet
            case rel => exact ⟨sa, sb, _, _, rfl, rfl, hab, fun _ => rfl, hsok.out.1.more (by omega) (by omega), hsok.out.2.more (by omega) (by omega), H1.out.tail⟩
        case rest =>
          clear x1 x2 x3 H1 hab hsok
          obtain ⟨sa', sb', e, f, rfl, rfl, hab, hef, hoa, hob, H⟩ := hcut
          have o1 := Lib.hid (hoa.out.pt (by have := hB.out; omega) 1)
          have o2 := Lib.hid (hob.out.pt (by have := hB.out; omega) 1)
          have o3 : Hid (((sa'.pt 1).l.flatMap (·.2)).length ≤ 1000000) := by have := hoa.out.flat 1; have := hB.out; show _ ≤ _; omega
          have o4 : Hid (((sb'.pt 1).l.flatMap (·.2)).length ≤ 1000000) := by have := hob.out.flat 1; have := hB.out; show _ ≤ _; omega
          have tail : Hid (mb = true ∧ e = f ∨ mb = false) := by
            cases mb with
            | true => exact .inl ⟨rfl, hef.out rfl⟩
            | false => exact .inr rfl
          clear hef
          rcases tail.out with ⟨rfl, rfl⟩ | rfl
          all_goals
            clear tail
            go_wp2_with fail
            refine (last_any pa 1 sa' _ w _ H.out o1.out).mono ?_
            rw [hab.out]
            rintro e w3 ⟨rfl, H1⟩
            replace H1 := Lib.hid H1.at1
            clear H
            go_wp2_with fail
            refine (last_any pb 1 sb' _ w _ H1.out o2.out).mono ?_
            rintro e w4 ⟨rfl, H2⟩
            replace H2 := Lib.hid H2.at1
            clear H1
            go_wp2_with fail
            refine (staged22 pa 1 sa' _ w _ H2.out o1.out).mono ?_
            rw [hab.out]
            rintro e w5 ⟨A5, c5, rfl, H3⟩
            replace H3 := Lib.hid H3.at2
            clear H2
            go_wp2_with fail
            refine (staged22 pb 1 sb' _ w _ H3.out o2.out).mono ?_
            rintro e w6 ⟨A6, c6, rfl, H4⟩
            have hr1 := Lib.hid H4.at2.ls_rd
            have hr2 := Lib.hid H4.ls_rd
            replace H4 := Lib.hid H4
            clear H3
            go_wp2_with fail
            refine (eqlist21 _ _ _ _ _ hr1.out hr2.out).mono ?_
            rw [decide_eq_true rfl]
            rintro e w7 ⟨rfl, k7, rfl⟩
            replace H4 := Lib.hid ((H4.out.drewN k7).tail.at2)
            clear hr1 hr2
            go_wp2_with fail
            refine (upto24 pa 1 18446744073709551615 sa' _ w _ H4.out o1.out o3.out).mono ?_
            rw [hab.out]
            rintro e w8 ⟨A8, c8, rfl, H5⟩
            replace H5 := Lib.hid H5.at2
            clear H4
            go_wp2_with fail
            refine (upto24 pb 1 18446744073709551615 sb' _ w _ H5.out o2.out o4.out).mono ?_
            rintro e w9 ⟨A9, c9, rfl, H6⟩
            have hr1 := Lib.hid H6.at2.ls_rd
            have hr2 := Lib.hid H6.ls_rd
            replace H6 := Lib.hid H6
            clear H5
            go_wp2_with fail
            refine (eqrec17 _ _ _ _ _ hr1.out hr2.out).mono ?_
            rw [decide_eq_true rfl]
            rintro e w10 ⟨rfl, k10, rfl⟩
            replace H6 := Lib.hid (H6.out.drewN k10)
            clear hr1 hr2
            go_wp2_with fail
            go_roundg (n - (j + 1))
            case measure => have := hk.out; omega
            case rel =>
              exact ⟨j + 1, sa', sb', by omega, by go_num, hab, hfin.out sa' sb' hoa.out hob.out, H6.out.tail.at1.tail.at2.tail.at1⟩
      · have hj1 : decide ((j : Int) < (n : Int)) = false := by rw [decide_eq_false_iff_not]; omega
        have hj2 : decide (j < n) = false := by rw [decide_eq_false_iff_not]; omega
        clear hj
        go_wp2_with fail
        go_ret
        exact ⟨rfl, below_of H.out.tail.tail⟩
end Go.Proofs.Ytjlonfldcmcchaa

import Derived.Test.YtjlonfldcmcchaaTo
import Derived.IntWalk
import Derived.Test.YtjlonfldcmcchaaProg
import Derived.Test.YtjlonfldcmcchaaLs
import Derived.Outline
import Derived.StillTailTactics
import Derived.Deep.DeepCutAuto
import Derived.Deep.CutBlock
import Derived.Deep.LoopGhost
import Derived.Deep.QuietTactic
import Derived.BigQuiet
import Derived.Deep.RegionHeld3
import Derived.Deep.RegionLaw
set_option linter.unusedVariables false
set_option linter.unusedSimpArgs false
namespace Go.Proofs.Ytjlonfldcmcchaa
open Go.RowKit
theorem upd_same' (s : Lg) (n : Int) : (⟨upd s.pt n (s.pt n), s.all⟩ : Lg) = s := by
  rw [upd_same]
theorem fresh_fresh (s : Pt) (t : Int) : (⟨s.l, s.dn + (s.fresh t).length⟩ : Pt).fresh t = [] := by
  have h : s.l.drop (s.dn + (s.fresh t).length) = (s.l.drop s.dn).dropWhile fun x => decide (x.1 ≤ t) := by
    rw [← List.drop_drop]
    have := List.takeWhile_append_dropWhile (p := fun x : Int × List Rec => decide (x.1 ≤ t)) (l := s.l.drop s.dn)
    conv => lhs; rw [← this]
    exact List.drop_left ..
  unfold Pt.fresh at h ⊢
  simp only
  rw [h]
  cases hd : (s.l.drop s.dn).dropWhile fun x => decide (x.1 ≤ t) with
  | nil => rfl
  | cons a l =>
    have := List.head_dropWhile_not (fun x : Int × List Rec => decide (x.1 ≤ t)) (l := s.l.drop s.dn) (by rw [hd]; simp)
    simp only [hd, List.head_cons] at this
    rw [List.takeWhile_cons_of_neg (by simpa using this)]
theorem Lg.cm_cm (s : Lg) (n t : Int) : (s.cm n t).cm n t = s.cm n t := by
  unfold Lg.cm
  by_cases h1 : t ≤ (s.pt n).last
  · simp only [if_pos h1]
  · cases h2 : (s.pt n).l.any (fun x => x.1 == t) with
    | false => simp only [if_neg h1, Bool.false_eq_true, if_false, h2]
    | true =>
      simp only [if_neg h1, if_true]
      have e1 : (s.commit n t).pt n = ⟨(s.pt n).l, (s.pt n).dn + ((s.pt n).fresh t).length⟩ := by simp [Lg.commit, upd]
      by_cases h3 : t ≤ ((s.commit n t).pt n).last
      · simp only [if_pos h3]
      · have h4 : ((s.commit n t).pt n).l.any (fun x => x.1 == t) = true := by rw [e1]; exact h2
        simp only [if_neg h3, h4, if_true]
        have h5 : ((s.commit n t).pt n).fresh t = [] := by rw [e1]; exact fresh_fresh _ t
        unfold Lg.commit at h5 ⊢
        simp only at h5 ⊢
        rw [h5]
        simp only [List.length_nil, Nat.add_zero, List.flatMap_nil, List.append_nil]
        rw [show (⟨(upd s.pt n ⟨(s.pt n).l, (s.pt n).dn + ((s.pt n).fresh t).length⟩ n).l, (upd s.pt n ⟨(s.pt n).l, (s.pt n).dn + ((s.pt n).fresh t).length⟩ n).dn⟩ : Pt) = upd s.pt n ⟨(s.pt n).l, (s.pt n).dn + ((s.pt n).fresh t).length⟩ n from rfl, upd_same]
theorem cutAt_take (l : List (Int × List Rec)) (dn : Nat) (t : Int) (m : Nat) : ∀ k, k ≤ m → cutAt (l.take m) dn t k = cutAt l dn t k
  | 0, _ => rfl
  | k + 1, h => by
    have ih := cutAt_take l dn t m k (by omega)
    simp only [cutAt, List.getElem?_take, if_pos (show k < m by omega), ih]
theorem cutAt_cutAt (l : List (Int × List Rec)) (dn : Nat) (t : Int) : ∀ k, cutAt l dn t (cutAt l dn t k) = cutAt l dn t k
  | 0 => rfl
  | k + 1 => by
    by_cases h : dn < k + 1 ∧ t < ((l[k]?.map (·.1)).getD 0)
    · have e : cutAt l dn t (k + 1) = cutAt l dn t k := by rw [cutAt, if_pos h]
      rw [e, cutAt_cutAt l dn t k]
    · have e : cutAt l dn t (k + 1) = k + 1 := by rw [cutAt, if_neg h]
      rw [e, e]
theorem Lg.abort_abort (s : Lg) (n t : Int) : (s.abort n t).abort n t = s.abort n t := by
  have e1 : (s.abort n t).pt n = ⟨(s.pt n).l.take (cutAt (s.pt n).l (s.pt n).dn t (s.pt n).l.length), (s.pt n).dn⟩ := by simp [Lg.abort, upd]
  have hle := cutAt_le (s.pt n).l (s.pt n).dn t (s.pt n).l.length
  have hcc := cutAt_cutAt (s.pt n).l (s.pt n).dn t (s.pt n).l.length
  have e2 : (⟨((s.abort n t).pt n).l.take (cutAt ((s.abort n t).pt n).l ((s.abort n t).pt n).dn t ((s.abort n t).pt n).l.length), ((s.abort n t).pt n).dn⟩ : Pt) = (s.abort n t).pt n := by
    rw [e1]
    simp only
    generalize cutAt (s.pt n).l (s.pt n).dn t (s.pt n).l.length = k at *
    rw [cutAt_take _ _ _ _ _ (by simp only [List.length_take]; omega), List.length_take, Nat.min_eq_left hle, hcc, List.take_take, Nat.min_self]
  show (⟨upd (s.abort n t).pt n ⟨((s.abort n t).pt n).l.take (cutAt ((s.abort n t).pt n).l ((s.abort n t).pt n).dn t ((s.abort n t).pt n).l.length), ((s.abort n t).pt n).dn⟩, (s.abort n t).all⟩ : Lg) = s.abort n t
  rw [e2, upd_same]
theorem Lg.cm_all (s : Lg) (n t : Int) : ∃ tl, (s.cm n t).all = s.all ++ tl := by
  unfold Lg.cm
  split
  · exact ⟨[], by simp⟩
  · split
    · exact ⟨_, rfl⟩
    · exact ⟨[], by simp⟩
theorem Lg.stage_all (s : Lg) (n t : Int) (r : List Rec) : (s.stage n t r).all = s.all := by
  unfold Lg.stage
  split <;> rfl
theorem stok_of {W : World} {x : Int × Int × Int × Slc} {Q : List Rec → Prop} (h : (Lit.int .i64 x.1).wf = true ∧ (Lit.int .i64 x.2.1).wf = true ∧ (Lit.int .u64 x.2.2.1).wf = true ∧ x.2.2.2.2.1 * Try.prog.bytesOf 39 ≤ reachBytes ∧ ∃ xs, RdL ERec W (.slice x.2.2.2.1 x.2.2.2.2.1 x.2.2.2.2.2) xs ∧ Q xs) : StOk W x := by
  obtain ⟨h1, h2, h3, h4, xs, h5, _⟩ := h
  rw [show Try.prog.bytesOf 39 = 24 from by kernel_rfl] at h4
  exact ⟨h1, h2, h3, h4, xs, h5⟩
theorem u64_ge {x : Int} (h : (Lit.int .u64 x).wf = true) : 0 ≤ x := by
  simp [Lit.wf] at h
  exact h.1
set_option maxRecDepth 100000 in
set_option maxHeartbeats 1000000 in
theorem sinkgrows_walk (A : Option Addr) (n c : Nat) (ss : List (Int × Int × Int × Slc)) (tm : Int) (w : World) (hr : RdL EStep w (.slice A n c) ss) (hok : ∀ x ∈ ss, StOk w x) (htm : (Lit.int .i64 tm).wf = true) :
    Calls Try.prog 4 #[.slice A n c, .int .i64 tm] w fun e w' => e = .returned (.bool true) ∧ Below w.heap.size w w' := by
  clear htm
  obtain ⟨tq, htq⟩ : ∃ q : Nat, tm % 4 = (q : Int) := ⟨(tm % 4).toNat, by omega⟩
  have htq4 : tq < 4 := by omega
  replace htq := Lib.hid htq
  obtain ⟨T, hT⟩ : ∃ T, T = tq + 1 := ⟨_, rfl⟩
  have hw1 : IntKind.i64.wrap (1 + (tq : Int)) = (T : Int) := by rw [IntWalk.i64_in _ (by omega)]; omega
  have hT1 : 1 ≤ T ∧ T ≤ 4 := by omega
  clear hT htq4
  have hcap := hr.caps.2
  have hn := Lib.hid hr.caps.1
  have hlight := light9 A n c ss
  have hok1 : ∀ x ∈ ss, x.2.2.2.2.1 * 24 ≤ reachBytes := fun x hx => (hok x hx).2.2.2.1
  replace hr := Lib.hid hr
  replace hok := Lib.hid hok
  replace hok1 := Lib.hid hok1
  replace hlight := Lib.hid hlight
  go_enter Try.func4, Try.ntmps4
  go_wp2_with fail
  refine (known8 w w _ (Hs.start w)).mono ?_
  rintro e w1 ⟨rfl, H⟩
  go_wp2_with fail
  refine (hlight.out w1 (hr.out.old H) hok1.out).mono ?_
  rintro e w2 ⟨b, rfl, rfl, hb⟩
  clear hlight
  cases b with
  | false =>
    go_wp2_with fail
    go_ret
    exact ⟨rfl, below_of H⟩
  | true =>
    obtain ⟨hn2, hsum⟩ := hb rfl
    clear hb
    replace hsum := Lib.hid hsum
    go_wp2_with fail
    refine (place26 tm 4 _ (by omega) (by omega)).mono ?_
    rw [htq.out]
    rintro e w2 ⟨rfl, rfl⟩
    go_wp2_with fail
    refine (new10 _ w _ H).mono ?_
    rintro e w1 ⟨pa, rfl, H⟩
    go_wp2_with fail
    refine (new10 _ w _ H).mono ?_
    rintro e w1 ⟨pb, rfl, H⟩
    have H0 := Lib.hid (H.at1.ls_nil ERec 39)
    clear H
    go_wp2_with fail
    go_loopg [7, 8] n (fun k wv iv wr => ∃ (j : Nat) (s : Lg) (A1 : Option Addr) (c1 : Nat) (was : List Rec), k + j = n ∧ iv = .int .i64 j ∧ wv = .slice A1 was.length c1 ∧ Hid (∃ tl, s.all = was ++ tl) ∧ Hid (s.Ok (wsum (ss.take j)) (j * 3000)) ∧ Hid (Hs w wr [Ls ERec 39 (.slice A1 was.length c1) was, Log pa s, Log pb s, Old w]))
    case atStart => exact ⟨0, _, none, 0, [], by omega, rfl, rfl, ⟨[], rfl⟩, Lg.Ok.new.more (by omega) (by omega), H0.out⟩
    case round =>
      clear H0
      obtain ⟨j, s, A1, c1, was, hk, rfl, rfl, htl, hsok, H⟩ := hrel
      have hjn : j ≤ n := by omega
      replace hk := Lib.hid hk
      rcases Nat.lt_or_ge j n with hj | hj
      · have hj0 : (0 : Int) ≤ (j : Int) := by omega
        have hj1 : (j : Int) < (n : Int) := by omega
        obtain ⟨x, hx⟩ : ∃ x, ss[j]? = some x := ⟨_, List.getElem?_eq_getElem (by have := hn.out; omega)⟩
        have hws := Lib.hid (wsum_snoc ss j x hx)
        have hwl := Lib.hid (wsum_take ss (j + 1))
        obtain ⟨z1, z2, z3, z4, rs, hrs⟩ := hok.out x (List.mem_of_getElem? hx)
        obtain ⟨b, pn, t, A2, m2, c2⟩ := x
        simp only at hws hwl z1 z2 z3 z4 hrs
        replace z3 := u64_ge z3
        have hrl := Lib.hid hrs.caps.1
        replace hrs := Lib.hid hrs
        have hrd := hr.out.old H.out.at3
        obtain ⟨g, off, rfl⟩ := hrd.some_ (by have := hn.out; omega)
        have s0 : wr.cell? ⟨g, off + j * 4, none⟩ = some (.int .i64 b) := hrd.cell hx 0 rfl
        have s1 : wr.cell? ⟨g, off + j * 4 + 1, none⟩ = some (.int .i64 pn) := hrd.cell hx 1 rfl
        have s2 : wr.cell? ⟨g, off + j * 4 + 2, none⟩ = some (.int .u64 t) := hrd.cell hx 2 rfl
        have s3 : wr.cell? ⟨g, off + j * 4 + 3, none⟩ = some (.slice A2 m2 c2) := hrd.cell hx 3 rfl
        replace hx := Lib.hid hx
        have hB : Hid (wsum (ss.take j) + 1 + m2 ≤ 3000) := by have := hws.out; have := hwl.out; have := hsum.out; show _ ≤ _; omega
        have hsok2 := Lib.hid (hsok.out.more (B' := wsum (ss.take j) + 1 + m2) (C' := j * 3000 + 3000) (by omega) (by omega))
        have hm2 : m2 ≤ 3000 := by have := hB.out; omega
        clear hrd
        go_upto_block 2 with (fail)
        clear s0 s1 s2 s3
        have H1 := H.out.alloc (.cells #[.int .i64 b, .int .i64 pn, .int .u64 t, .slice A2 m2 c2] 34)
        generalize wr.alloc _ = wa at *
        generalize wr.heap.size = bx at *
        have x1 : wa.cell? ⟨bx, 1, none⟩ = some (.int .i64 pn) := H1.cellOf 1 rfl
        have x2 : wa.cell? ⟨bx, 2, none⟩ = some (.int .u64 t) := H1.cellOf 2 rfl
        have x3 : wa.cell? ⟨bx, 3, none⟩ = some (.slice A2 m2 c2) := H1.cellOf 3 rfl
        clear H
        replace H1 := Lib.hid H1
        go_cut [] (fun wc => ∃ (s' : Lg), Hid (∃ tl, s'.all = s.all ++ tl) ∧ Hid (s'.Ok (wsum (ss.take j) + 1 + m2) (j * 3000 + 3000)) ∧ Hid (Hs w wc [Ls ERec 39 (.slice A1 was.length c1) was, Log pa s', Log pb s', Old w]))
        case first =>
          rcases (show (b = 0 ∨ b = 1 ∨ b = 2) ∨ (b = 3 ∨ b = 4) ∨ b = 5 ∨ (b ≠ 0 ∧ b ≠ 1 ∧ b ≠ 2 ∧ b ≠ 3 ∧ b ≠ 4 ∧ b ≠ 5) by omega) with hb | hb | rfl | hb
          · rcases hb with rfl | rfl | rfl
            all_goals
              go_wp2_with fail
              refine (stage_tot pa pn t s _ _ _ w _ H1.out.at2 hsok.out (by have := hB.out; omega) (.slice A2 m2 c2) rs (fun w' h => hrs.out.old h.at3) (by have := hrl.out; omega) z3).mono ?_
              rintro e w3 ⟨rfl, H2⟩
              have x1 : w3.cell? ⟨bx, 1, none⟩ = some (.int .i64 pn) := H2.at1.cellOf 1 rfl
              have x2 : w3.cell? ⟨bx, 2, none⟩ = some (.int .u64 t) := H2.at1.cellOf 2 rfl
              have x3 : w3.cell? ⟨bx, 3, none⟩ = some (.slice A2 m2 c2) := H2.at1.cellOf 3 rfl
              replace H2 := Lib.hid H2
              clear H1
              go_wp2_with fail
              refine (stage_tot pb pn t s _ _ _ w _ H2.out.at3 hsok.out (by have := hB.out; omega) (.slice A2 m2 c2) rs (fun w' h => hrs.out.old h.at3) (by have := hrl.out; omega) z3).mono ?_
              rintro e w4 ⟨rfl, H3⟩
              replace H3 := Lib.hid H3
              clear H2
              go_wp2_with fail
              go_meet
              case rel => exact ⟨s.stage pn t rs, ⟨[], by rw [Lg.stage_all]; simp⟩, (hsok.out.stage pn t rs).more (by have := hrl.out; omega) (by omega), H3.out.at2.tail.at1.at2⟩
          · rcases hb with rfl | rfl
            all_goals
              go_wp2_with fail
              refine (commit_tot pa pn t s _ _ _ w _ H1.out.at2 hsok.out (by have := hB.out; omega) (by omega)).mono ?_
              rintro e w3 ⟨rfl, H2⟩
              clear x1 x2 x3
              replace H2 := Lib.hid H2
              clear H1
              go_wp2_with fail
              go_loopg [10] T (fun k iv wq => ∃ (i : Nat), k + i = T ∧ iv = .int .i64 i ∧ Hid (Hs w wq [Log pb (if i = 0 then s else s.cm pn t), Log pa (s.cm pn t), Blk bx (.cells #[.int .i64 _, .int .i64 pn, .int .u64 t, .slice A2 m2 c2] 34 (0, 0)), Ls ERec 39 (.slice A1 was.length c1) was, Old w]))
              case atStart => exact ⟨0, rfl, rfl, H2.out.at3⟩
              case round =>
                clear H2
                obtain ⟨i, hki, rfl, H2⟩ := hrel
                have hiT : i ≤ T := by omega
                replace hki := Lib.hid hki
                have x1 : wr.cell? ⟨bx, 1, none⟩ = some (.int .i64 pn) := H2.out.at2.cellOf 1 rfl
                have x2 : wr.cell? ⟨bx, 2, none⟩ = some (.int .u64 t) := H2.out.at2.cellOf 2 rfl
                rcases Nat.lt_or_ge i T with hi | hi
                · have hi1 : (i : Int) < (T : Int) := by omega
                  obtain ⟨cur, hc0, hc1, hc2⟩ : ∃ cur, (if i = 0 then s else s.cm pn t) = cur ∧ cur.cm pn t = s.cm pn t ∧ cur.Ok (wsum (ss.take j) + 1 + m2) (j * 3000 + 3000) := by
                    split
                    · exact ⟨s, rfl, rfl, hsok2.out⟩
                    · exact ⟨_, rfl, Lg.cm_cm s pn t, (hsok.out.cm pn t).more (by omega) (by have := hB.out; omega)⟩
                  rw [hc0] at H2
                  replace hc1 := Lib.hid hc1
                  replace hc2 := Lib.hid hc2
                  clear hc0
                  go_wp2_with fail
                  refine (commit_tot pb pn t cur _ _ _ w _ H2.out hc2.out (by have := hB.out; omega) (by omega)).mono ?_
                  rw [hc1.out]
                  rintro e w4 ⟨rfl, H3⟩
                  clear H2 hc1 hc2
                  replace H3 := Lib.hid H3
                  go_wp2_with fail
                  go_roundg (T - (i + 1))
                  case measure => have := hki.out; omega
                  case rel => exact ⟨i + 1, by omega, by go_num, by rw [if_neg (by omega)]; exact H3.out⟩
                · have hi1 : decide ((i : Int) < (T : Int)) = false := by rw [decide_eq_false_iff_not]; omega
                  have hi2 : decide (i < T) = false := by rw [decide_eq_false_iff_not]; omega
                  have hi3 : i ≠ 0 := by omega
                  rw [if_neg hi3] at H2
                  clear hi
                  go_wp2_with fail
                  go_meet
                  case rel => exact ⟨s.cm pn t, s.cm_all pn t, (hsok.out.cm pn t).more (by omega) (by have := hB.out; omega), H2.out.at2.tail.at1.at2⟩
          · go_wp2_with fail
            refine (abort_tot pa pn t s _ _ _ w _ H1.out.at2 hsok.out (by have := hB.out; omega)).mono ?_
            rintro e w3 ⟨rfl, H2⟩
            clear x1 x2 x3
            replace H2 := Lib.hid H2
            clear H1
            go_wp2_with fail
            go_loopg [11] T (fun k iv wq => ∃ (i : Nat), k + i = T ∧ iv = .int .i64 i ∧ Hid (Hs w wq [Log pb (if i = 0 then s else s.abort pn t), Log pa (s.abort pn t), Blk bx (.cells #[.int .i64 _, .int .i64 pn, .int .u64 t, .slice A2 m2 c2] 34 (0, 0)), Ls ERec 39 (.slice A1 was.length c1) was, Old w]))
            case atStart => exact ⟨0, rfl, rfl, H2.out.at3⟩
            case round =>
              clear H2
              obtain ⟨i, hki, rfl, H2⟩ := hrel
              have hiT : i ≤ T := by omega
              replace hki := Lib.hid hki
              have x1 : wr.cell? ⟨bx, 1, none⟩ = some (.int .i64 pn) := H2.out.at2.cellOf 1 rfl
              have x2 : wr.cell? ⟨bx, 2, none⟩ = some (.int .u64 t) := H2.out.at2.cellOf 2 rfl
              rcases Nat.lt_or_ge i T with hi | hi
              · have hi1 : (i : Int) < (T : Int) := by omega
                obtain ⟨cur, hc0, hc1, hc2⟩ : ∃ cur, (if i = 0 then s else s.abort pn t) = cur ∧ cur.abort pn t = s.abort pn t ∧ cur.Ok (wsum (ss.take j) + 1 + m2) (j * 3000 + 3000) := by
                  split
                  · exact ⟨s, rfl, rfl, hsok2.out⟩
                  · exact ⟨_, rfl, Lg.abort_abort s pn t, (hsok.out.abort pn t).more (by omega) (by have := hB.out; omega)⟩
                rw [hc0] at H2
                replace hc1 := Lib.hid hc1
                replace hc2 := Lib.hid hc2
                clear hc0
                go_wp2_with fail
                refine (abort_tot pb pn t cur _ _ _ w _ H2.out hc2.out (by have := hB.out; omega)).mono ?_
                rw [hc1.out]
                rintro e w4 ⟨rfl, H3⟩
                clear H2 hc1 hc2
                replace H3 := Lib.hid H3
                go_wp2_with fail
                go_roundg (T - (i + 1))
                case measure => have := hki.out; omega
                case rel => exact ⟨i + 1, by omega, by go_num, by rw [if_neg (by omega)]; exact H3.out⟩
              · have hi1 : decide ((i : Int) < (T : Int)) = false := by rw [decide_eq_false_iff_not]; omega
                have hi2 : decide (i < T) = false := by rw [decide_eq_false_iff_not]; omega
                have hi3 : i ≠ 0 := by omega
                rw [if_neg hi3] at H2
                clear hi
                go_wp2_with fail
                go_meet
                case rel => exact ⟨s.abort pn t, ⟨[], by simp [Lg.abort]⟩, (hsok.out.abort pn t).more (by omega) (by have := hB.out; omega), H2.out.at2.tail.at1.at2⟩
          · go_wp2_with fail
            go_meet
            case rel => exact ⟨s, ⟨[], by simp⟩, hsok2, H1.out.tail⟩
        case rest =>
          clear x1 x2 x3 H1 hsok2
          obtain ⟨s', htl', hok', H⟩ := hcut
          obtain ⟨tl, htl2⟩ : ∃ tl, s'.all = was ++ tl := by
            obtain ⟨t1, h1⟩ := htl.out
            obtain ⟨t2, h2⟩ := htl'.out
            exact ⟨t1 ++ t2, by rw [h2, h1, List.append_assoc]⟩
          have hM1 : was.length ≤ s'.all.length := by rw [htl2, List.length_append]; omega
          have hM2 : s'.all.length ≤ 700000 := by have := hok'.out.all; omega
          have htake : Hid (s'.all.take was.length = was) := by show _ = _; rw [htl2]; simp
          replace htl2 := Lib.hid htl2
          have hlt1 : decide (s'.all.length < was.length) = false := by rw [decide_eq_false_iff_not]; omega
          have hlt2 : decide ((s'.all.length : Int) < (was.length : Int)) = false := by rw [decide_eq_false_iff_not]; omega
          go_wp2_with fail
          refine (all18 pa s' _ w _ H.out.at1 (by omega)).mono ?_
          rintro e w3 ⟨A3, c3, rfl, H2⟩
          have hc3 := H2.ls_rd.caps.2
          have hcut := cut_take Try.prog 29 39 3 Try.underlying29 (by kernel_rfl) A3 s'.all.length c3 was.length (by omega)
          have hr1 := Lib.hid (H2.ls_rd.take was.length hM1)
          have hr2 := Lib.hid H2.at2.ls_rd
          replace H2 := Lib.hid H2
          clear H hM1 hM2
          go_wp2_with fail
          refine (eqrec17 _ _ _ _ _ hr1.out hr2.out).mono ?_
          rw [decide_eq_true htake.out]
          rintro e w4 ⟨rfl, k4, rfl⟩
          replace H2 := Lib.hid (H2.out.drewN k4)
          clear hr1 hr2 hcut
          go_wp2_with fail
          refine (all18 pb s' _ w _ H2.out.at3 (by have := hok'.out.all; omega)).mono ?_
          rintro e w5 ⟨A4, c4, rfl, H3⟩
          clear H2
          go_wp2_with fail
          refine (eqrec17 _ _ _ _ _ H3.ls_rd H3.at2.ls_rd).mono ?_
          rw [decide_eq_true rfl]
          rintro e w6 ⟨rfl, k6, rfl⟩
          replace H3 := Lib.hid (H3.drewN k6)
          go_wp2_with fail
          go_roundg (n - (j + 1))
          case measure => have := hk.out; omega
          case rel => exact ⟨j + 1, s', A3, c3, s'.all, by omega, by go_num, rfl, ⟨[], by simp⟩, hok'.out.more (by have := hws.out; omega) (by omega), H3.out.tail.at3.tail.at2.at2⟩
      · have hj1 : decide ((j : Int) < (n : Int)) = false := by rw [decide_eq_false_iff_not]; omega
        have hj2 : decide (j < n) = false := by rw [decide_eq_false_iff_not]; omega
        clear hj
        go_wp2_with fail
        go_ret
        exact ⟨rfl, below_of H.out.tail.tail.tail⟩
end Go.Proofs.Ytjlonfldcmcchaa

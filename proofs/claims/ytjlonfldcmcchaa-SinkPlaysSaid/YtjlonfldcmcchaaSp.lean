import Derived.Test.YtjlonfldcmcchaaPp
import Derived.Test.YtjlonfldcmcchaaRc
import Derived.Test.YtjlonfldcmcchaaProg
import Derived.Test.YtjlonfldcmcchaaLs
import Derived.Outline
import Derived.StillTailTactics
import Derived.Deep.DeepCutAuto
import Derived.Deep.CutBlock
import Derived.Deep.LoopGhost
import Derived.Deep.QuietTactic
import Derived.BigQuiet
import Derived.Deep.RegionHeld3
import Derived.Deep.RegionLaw
set_option linter.unusedVariables false
set_option linter.unusedSimpArgs false
namespace Go.Proofs.Ytjlonfldcmcchaa
open Go.RowKit
set_option maxRecDepth 100000 in
set_option maxHeartbeats 4000000 in
theorem sinkplays_walk (A : Option Addr) (n c : Nat) (ss : List (Int × Int × Int × Slc)) (w : World) (hr : RdL EStep w (.slice A n c) ss) (hok : ∀ x ∈ ss, StOk w x) :
    Calls Try.prog 3 #[.slice A n c] w fun e w' => e = .returned (.bool true) ∧ Below w.heap.size w w' := by
  have hcap := hr.caps.2
  have hn := Lib.hid hr.caps.1
  have hlight := light9 A n c ss
  have hok1 : ∀ x ∈ ss, x.2.2.2.2.1 * 24 ≤ reachBytes := fun x hx => (hok x hx).2.2.2.1
  replace hr := Lib.hid hr
  replace hok := Lib.hid hok
  replace hok1 := Lib.hid hok1
  replace hlight := Lib.hid hlight
  go_enter Try.func3, Try.ntmps3
  go_wp2_with fail
  refine (known8 w w _ (Hs.start w)).mono ?_
  rintro e w1 ⟨rfl, H⟩
  go_wp2_with fail
  refine (hlight.out w1 (hr.out.old H) hok1.out).mono ?_
  rintro e w2 ⟨b, rfl, rfl, hb⟩
  clear hlight
  cases b with
  | false =>
    go_wp2_with fail
    go_ret
    exact ⟨rfl, below_of H⟩
  | true =>
    obtain ⟨hn2, hsum⟩ := hb rfl
    clear hb
    replace hsum := Lib.hid hsum
    go_wp2_with fail
    refine (new10 _ w _ H).mono ?_
    rintro e w1 ⟨pa, rfl, H⟩
    have H0 : Hid (Hs w (w1.alloc (.cells #[.slice none 0 0, .slice none 0 0] 31)) [RLog w1.heap.size ⟨[], []⟩, Log pa ⟨fun _ => ⟨[], 0⟩, []⟩, Old w]) := RLog.mk_ (zs := []) rfl ((((RxS.nil H).ls_nil ERec 39).ls_nil ERt 71).alloc _)
    clear H
    go_wp2_with fail
    generalize w1.heap.size = pb at *
    generalize w1.alloc _ = w2 at *
    go_loopg [5] n (fun k iv wr => ∃ (j : Nat) (s : Lg) (r : Rf), k + j = n ∧ iv = .int .i64 j ∧ Hid (Same s r) ∧ Hid (s.Ok (wsum (ss.take j)) (j * 3000) ∧ r.Ok (wsum (ss.take j)) (j * 3000)) ∧ Hid (Hs w wr [RLog pb r, Log pa s, Old w]))
    case atStart => exact ⟨0, _, _, by omega, rfl, Same.new, ⟨Lg.Ok.new.more (by omega) (by omega), Rf.Ok.new.more (by omega) (by omega)⟩, H0.out⟩
    case round =>
      clear H0
      obtain ⟨j, s, r, hk, rfl, hsr, hsok, H⟩ := hrel
      have hjn : j ≤ n := by omega
      replace hk := Lib.hid hk
      rcases Nat.lt_or_ge j n with hj | hj
      · have hj0 : (0 : Int) ≤ (j : Int) := by omega
        have hj1 : (j : Int) < (n : Int) := by omega
        obtain ⟨x, hx⟩ : ∃ x, ss[j]? = some x := ⟨_, List.getElem?_eq_getElem (by have := hn.out; omega)⟩
        have hws := Lib.hid (wsum_snoc ss j x hx)
        have hwl := Lib.hid (wsum_take ss (j + 1))
        obtain ⟨z1, z2, z3, z4, rs, hrs⟩ := hok.out x (List.mem_of_getElem? hx)
        obtain ⟨b, pn, t, A2, m2, c2⟩ := x
        simp only at hws hwl z1 z2 z3 z4 hrs
        replace z3 := u64_ge z3
        have hrl := Lib.hid hrs.caps.1
        replace hrs := Lib.hid hrs
        have hrd := hr.out.old H.out.at2
        obtain ⟨g, off, rfl⟩ := hrd.some_ (by have := hn.out; omega)
        have s0 : wr.cell? ⟨g, off + j * 4, none⟩ = some (.int .i64 b) := hrd.cell hx 0 rfl
        have s1 : wr.cell? ⟨g, off + j * 4 + 1, none⟩ = some (.int .i64 pn) := hrd.cell hx 1 rfl
        have s2 : wr.cell? ⟨g, off + j * 4 + 2, none⟩ = some (.int .u64 t) := hrd.cell hx 2 rfl
        have s3 : wr.cell? ⟨g, off + j * 4 + 3, none⟩ = some (.slice A2 m2 c2) := hrd.cell hx 3 rfl
        replace hx := Lib.hid hx
        have hB : Hid (wsum (ss.take j) + 1 + m2 ≤ 3000) := by have := hws.out; have := hwl.out; have := hsum.out; show _ ≤ _; omega
        have hm2 : m2 ≤ 3000 := by have := hB.out; omega
        clear hrd
        go_upto_block 2 with (fail)
        clear s0 s1 s2 s3
        have H1 := H.out.alloc (.cells #[.int .i64 b, .int .i64 pn, .int .u64 t, .slice A2 m2 c2] 34)
        generalize wr.alloc _ = wa at *
        generalize wr.heap.size = bx at *
        have x1 : wa.cell? ⟨bx, 1, none⟩ = some (.int .i64 pn) := H1.cellOf 1 rfl
        have x2 : wa.cell? ⟨bx, 2, none⟩ = some (.int .u64 t) := H1.cellOf 2 rfl
        have x3 : wa.cell? ⟨bx, 3, none⟩ = some (.slice A2 m2 c2) := H1.cellOf 3 rfl
        clear H
        replace H1 := Lib.hid H1
        go_cut [7, 8] (fun ev fv wc => ∃ (s' : Lg) (r' : Rf) (e f : Int), ev = .int .i64 e ∧ fv = .int .i64 f ∧ e = f ∧ Hid (Same s' r') ∧ Hid (s'.Ok (wsum (ss.take j) + 1 + m2) (j * 3000 + 3000)) ∧ Hid (r'.Ok (wsum (ss.take j) + 1 + m2) (j * 3000 + 3000)) ∧ Hid (Hs w wc [Blk bx (.cells #[.int .i64 b, .int .i64 pn, .int .u64 t, .slice A2 m2 c2] 34 (0, 0)), RLog pb r', Log pa s', Old w]))
        case first =>
          rcases (show (b = 0 ∨ b = 1 ∨ b = 2) ∨ (b = 3 ∨ b = 4) ∨ b = 5 ∨ (b ≠ 0 ∧ b ≠ 1 ∧ b ≠ 2 ∧ b ≠ 3 ∧ b ≠ 4 ∧ b ≠ 5) by omega) with hb | hb | rfl | hb
          · have g1 := Lib.hid (hsr.out.stage hsok.out.1 pn t rs z3)
            have g2 := Lib.hid (hsr.out.stE hsok.out.1 pn t z3)
            rcases hb with rfl | rfl | rfl
            all_goals
              as_aux_lemma =>
                go_wp2_with (at_builtin; refine wpList_appendL (E := ERec) rfl (.const (.slice none 0 0)) (.tmp 36) 29 rfl 39 _ 3 24 Try.underlying29 infoc29 rfl (by decide) (by decide) rfl rfl _ rfl (H1.out.ls_nil ERec 39) (hrs.out.old H1.out.at3) (by have := hrl.out; simp; omega) ?_)
                intro A9 c9 w9 H2
                try simp only [List.length_nil, Nat.zero_add, List.nil_append] at H2
                have x1 : w9.cell? ⟨bx, 1, none⟩ = some (.int .i64 pn) := H2.at1.cellOf 1 rfl
                have x2 : w9.cell? ⟨bx, 2, none⟩ = some (.int .u64 t) := H2.at1.cellOf 2 rfl
                have x3 : w9.cell? ⟨bx, 3, none⟩ = some (.slice A2 m2 c2) := H2.at1.cellOf 3 rfl
                replace H2 := Lib.hid H2
                clear H1
                go_wp2_with fail
                go_region_held3 (fun w' => w'.cell? ⟨bx, 1, none⟩ = some (.int .i64 pn) ∧ w'.cell? ⟨bx, 2, none⟩ = some (.int .u64 t) ∧ w'.cell? ⟨bx, 3, none⟩ = some (.slice A2 m2 c2))
                  (first | exact ⟨H2.out.drew.at1.cellOf 1 rfl, H2.out.drew.at1.cellOf 2 rfl, H2.out.drew.at1.cellOf 3 rfl⟩ | exact ⟨H3.at2.cellOf 1 rfl, H3.at2.cellOf 2 rfl, H3.at2.cellOf 3 rfl⟩ | exact ⟨H4.at3.cellOf 1 rfl, H4.at3.cellOf 2 rfl, H4.at3.cellOf 3 rfl⟩)
                  (first
                    | (go_at_call 11; refine (stage_tot pa pn t s _ _ _ w _ H2.out.drew.at3 hsok.out.1 (by have := hB.out; omega) (.slice A9 rs.length c9) rs (fun w' h => h.ls_rd) (by have := hrl.out; omega) z3).mono ?_; rintro e w3 ⟨rfl, H3⟩)
                    | (go_at_call 12; refine (rstage12 pb pn t (.slice A2 m2 c2) rs r _ w _ H3.at3 (fun w' h => hrs.out.old h.at3) (by have := hrl.out; omega) (by have := hsok.out.2.len; have := hB.out; omega)).mono ?_; rintro e w4 ⟨rfl, H4⟩))
                clear x1 x2 x3 H2 H3
                rw [g2.out]
                replace H4 := Lib.hid H4.at2
                go_wp2_with fail
                go_loopg [10] rs.length (fun k iv wq => ∃ (i : Nat) (L : List Rec), k + i = rs.length ∧ iv = .int .i64 i ∧ Hid (L.length = rs.length) ∧ Hid (Hs w wq [Ls ERec 39 (.slice A9 rs.length c9) L, RLog pb (r.stage pn t rs), Log pa (s.stage pn t rs), Blk bx (.cells #[.int .i64 _, .int .i64 pn, .int .u64 t, .slice A2 m2 c2] 34 (0, 0)), Old w]))
                case atStart => exact ⟨0, rs, rfl, rfl, rfl, H4⟩
                case round =>
                  clear H4
                  obtain ⟨i, L, hki, rfl, hL, H4⟩ := hrel
                  have hi2 : i ≤ rs.length := by omega
                  have hrc := H4.out.ls_rd.caps.2
                  replace hki := Lib.hid hki
                  rcases Nat.lt_or_ge i rs.length with hi | hi
                  · have hi0 : (0 : Int) ≤ (i : Int) := by omega
                    have hi1 : (i : Int) < (rs.length : Int) := by omega
                    obtain ⟨y, hy⟩ : ∃ y, L[i]? = some y := ⟨_, List.getElem?_eq_getElem (by have := hL.out; omega)⟩
                    obtain ⟨g9, o9, rfl⟩ := H4.out.ls_rd.some_ (by have := hL.out; omega)
                    have q0 : wr.cell? ⟨g9, o9 + i * 3, none⟩ = some (.int .i64 y.1) := H4.out.ls_rd.cell hy 0 rfl
                    have q1 : wr.cell? ⟨g9, o9 + i * 3 + 1, none⟩ = some (.int .i64 y.2.1) := H4.out.ls_rd.cell hy 1 rfl
                    have q2 : wr.cell? ⟨g9, o9 + i * 3 + 2, none⟩ = some (.int .i64 y.2.2) := H4.out.ls_rd.cell hy 2 rfl
                    have f0 := H4.out.ls_frozen (o9 + i * 3)
                    have f1 := H4.out.ls_frozen (o9 + i * 3 + 1)
                    have f2 := H4.out.ls_frozen (o9 + i * 3 + 2)
                    have hl0 : i < L.length := (List.getElem?_eq_some_iff.1 hy).1
                    have H5 := H4.out.ls_put i y (-77, y.2.1, y.2.2) hy 0 (.int .i64 (-77)) (by decide) rfl
                    have H6 := H5.ls_put i (-77, y.2.1, y.2.2) (-77, 0, y.2.2) (by rw [List.getElem?_set_self hl0]) 1 (.int .i64 0) (by decide) rfl
                    have H7 := H6.ls_put i (-77, 0, y.2.2) (-77, 0, 0) (by rw [List.getElem?_set_self (by rw [List.length_set]; exact hl0)]) 2 (.int .i64 0) (by decide) rfl
                    replace hy := Lib.hid hy
                    rw [show o9 + (i * ERec.sz + 0) = o9 + i * 3 from by show o9 + (i * 3 + 0) = _; omega, show o9 + (i * ERec.sz + 1) = o9 + i * 3 + 1 from by show o9 + (i * 3 + 1) = _; omega, show o9 + (i * ERec.sz + 2) = o9 + i * 3 + 2 from by show o9 + (i * 3 + 2) = _; omega] at H7
                    replace H7 := Lib.hid H7
                    clear H5 H6 hl0
                    go_wp2_with fail
                    go_roundg (rs.length - (i + 1))
                    case measure => have := hki.out; omega
                    case rel => exact ⟨i + 1, _, by have := hki.out; omega, by go_num, by show _ = _; rw [List.length_set, List.length_set, List.length_set]; exact hL.out, H7⟩
                  · have hi1 : decide ((i : Int) < (rs.length : Int)) = false := by rw [decide_eq_false_iff_not]; omega
                    have hi3 : decide (i < rs.length) = false := by rw [decide_eq_false_iff_not]; omega
                    clear hi
                    go_wp2_with fail
                    go_meet
                    case rel => exact ⟨s.stage pn t rs, r.stage pn t rs, _, _, rfl, rfl, rfl, g1, (hsok.out.1.stage pn t rs).more (by have := hrl.out; omega) (by omega), (hsok.out.2.stage pn t rs).more (by have := hrl.out; omega) (by omega), H4.out.tail.at2⟩
          · have g1 := Lib.hid (hsr.out.cm hsok.out.1 pn t)
            have g2 := Lib.hid (hsr.out.cmE hsok.out.1 pn t)
            rcases hb with rfl | rfl
            all_goals
              as_aux_lemma =>
                go_wp2_with fail
                go_region_held3 (fun w' => w'.cell? ⟨bx, 1, none⟩ = some (.int .i64 pn) ∧ w'.cell? ⟨bx, 2, none⟩ = some (.int .u64 t))
                  (first | exact ⟨H1.out.drew.cellOf 1 rfl, H1.out.drew.cellOf 2 rfl⟩ | exact ⟨H3.at1.cellOf 1 rfl, H3.at1.cellOf 2 rfl⟩ | exact ⟨H4.at2.cellOf 1 rfl, H4.at2.cellOf 2 rfl⟩)
                  (first
                    | (go_at_call 13; refine (commit_tot pa pn t s _ _ _ w _ H1.out.drew.at2 hsok.out.1 (by have := hB.out; omega) (by omega)).mono ?_; rintro e w3 ⟨rfl, H3⟩)
                    | (go_at_call 14; refine (rcommit14 pb pn t r _ w _ H3.at2 (by have := hsok.out.2.len; have := hB.out; omega) (by have := hsok.out.2.flat; have := hsok.out.2.out; have := hB.out; omega)).mono ?_; rintro e w4 ⟨rfl, H4⟩))
                clear x1 x2 x3 H1 H3
                rw [g2.out]
                replace H4 := Lib.hid H4
                go_wp2_with fail
                go_meet
                case rel => exact ⟨s.cm pn t, r.cm pn t, _, _, rfl, rfl, rfl, g1, (hsok.out.1.cm pn t).more (by omega) (by have := hB.out; omega), (hsok.out.2.cm pn t).more (by omega) (by have := hB.out; omega), H4.out.at2⟩
          · have g1 := Lib.hid (hsr.out.abort hsok.out.1 pn t)
            as_aux_lemma =>
              go_wp2_with fail
              refine (abort_tot pa pn t s _ _ _ w _ H1.out.at2 hsok.out.1 (by have := hB.out; omega)).mono ?_
              rintro e w3 ⟨rfl, H3⟩
              have x1 : w3.cell? ⟨bx, 1, none⟩ = some (.int .i64 pn) := H3.at1.cellOf 1 rfl
              have x2 : w3.cell? ⟨bx, 2, none⟩ = some (.int .u64 t) := H3.at1.cellOf 2 rfl
              replace H3 := Lib.hid H3
              clear H1
              go_wp2_with fail
              refine (rabort16 pb pn t r _ w _ H3.out.at2 (by have := hsok.out.2.len; have := hB.out; omega)).mono ?_
              rintro e w4 ⟨rfl, H4⟩
              replace H4 := Lib.hid H4
              clear H3
              go_wp2_with fail
              go_meet
              case rel => exact ⟨s.abort pn t, r.abort pn t, _, _, rfl, rfl, rfl, g1, (hsok.out.1.abort pn t).more (by omega) (by omega), (hsok.out.2.abort pn t).more (by omega) (by omega), H4.out.at2⟩
          · go_wp2_with fail
            go_meet
            case rel => exact ⟨s, r, _, _, rfl, rfl, rfl, hsr, hsok.out.1.more (by omega) (by omega), hsok.out.2.more (by omega) (by omega), H1.out⟩
        case rest =>
          clear x1 x2 x3 H1 hsr hsok
          obtain ⟨s', r', e, f, rfl, rfl, rfl, hsr, hoa, hob, H⟩ := hcut
          have o1 := Lib.hid (hoa.out.pt (by have := hB.out; omega) pn)
          have o3 : Hid (((s'.pt pn).l.flatMap (·.2)).length ≤ 1000000) := by have := hoa.out.flat pn; have := hB.out; show _ ≤ _; omega
          have o5 : Hid (r'.l.length ≤ 1000000) := by have := hob.out.len; have := hB.out; show _ ≤ _; omega
          have o6 : Hid ((r'.l.flatMap (·.2.2.1)).length ≤ 1000000) := by have := hob.out.flat; have := hB.out; show _ ≤ _; omega
          have o7 : Hid (s'.all.length ≤ 1000000) := by have := hoa.out.all; show _ ≤ _; omega
          have d1 := Lib.hid (decide_eq_true hsr.out.out.symm)
          have d2 := Lib.hid (hsr.out.last hoa.out pn)
          have d3 := Lib.hid (decide_eq_true (hsr.out.staged pn).symm)
          have d4 := Lib.hid (decide_eq_true (hsr.out.upto pn t).symm)
          obtain ⟨vo, H⟩ := H.out.at1.ex
          obtain ⟨A1, c1, hvo⟩ := (RLogV.rd H).form
          subst hvo
          have keep_of : Hid (∀ (w' : World) (R' : List HP), Hs w w' (Blk bx (.cells #[.int .i64 b, .int .i64 pn, .int .u64 t, .slice A2 m2 c2] 34 (0, 0)) :: RLogV pb r' (.slice A1 r'.out.length c1) :: R') → w'.cell? ⟨bx, 1, none⟩ = some (.int .i64 pn) ∧ w'.cell? ⟨bx, 2, none⟩ = some (.int .u64 t) ∧ w'.cell? ⟨pb, 1, none⟩ = some (.slice A1 r'.out.length c1)) :=
            fun w' R' h => ⟨h.cellOf 1 rfl, h.cellOf 2 rfl, RLogV.cell h.at1⟩
          have K0 := Lib.hid H.at1
          clear H
          go_wp2_with fail
          go_region_held3 (fun w' => w'.cell? ⟨bx, 1, none⟩ = some (.int .i64 pn) ∧ w'.cell? ⟨bx, 2, none⟩ = some (.int .u64 t) ∧ w'.cell? ⟨pb, 1, none⟩ = some (.slice A1 r'.out.length c1))
            (first | exact keep_of.out _ _ K0.out.drew | exact keep_of.out _ _ K1 | exact keep_of.out _ _ K2 | exact keep_of.out _ _ K3 | exact keep_of.out _ _ K5 | exact keep_of.out _ _ K6 | exact keep_of.out _ _ K7 | exact keep_of.out _ _ K8 | exact keep_of.out _ _ K9 | exact keep_of.out _ _ K10)
            (first
              | (go_at_call 17; refine (eqrec17 _ _ _ _ _ K9.at4.ls_rd K9.at2.ls_rd).mono ?_; rw [d4.out]; rintro e w12 ⟨rfl, k12, rfl⟩; have K10 := K9.drewN k12)
              | (go_at_call 18; refine (all18 pa s' _ w _ K0.out.drew.at2 o7.out).mono ?_; rintro e w3 ⟨A3, c3, rfl, K1⟩; replace K1 := K1.at1.at3.at3)
              | (go_at_call 17; refine (eqrec17 _ _ s'.all r'.out _ K1.at3.ls_rd (RLogV.rd K1.at1)).mono ?_; rw [d1.out]; rintro e w4 ⟨rfl, k4, rfl⟩; have K2 := K1.drewN k4)
              | (go_at_call 19; refine (last_any pa pn s' _ w _ K2.at2 o1.out).mono ?_; rintro e w5 ⟨rfl, K3⟩; replace K3 := K3.at2.at2)
              | (go_at_call 20; refine (rlast20 pb pn r' _ w _ (Hs.mk_ex _ K3.at1) o5.out).mono ?_; rw [d2.out]; rintro e w6 ⟨rfl, rfl⟩)
              | (go_at_call 22; refine (staged22 pa pn s' _ w _ K3.at2 o1.out).mono ?_; rintro e w7 ⟨A7, c7, rfl, K5⟩; replace K5 := K5.at1.at3.at3)
              | (go_at_call 23; refine (rstaged23 pb pn r' _ _ w _ K5.at1 o5.out).mono ?_; rintro e w8 ⟨A8, c8, rfl, K6⟩; replace K6 := K6.at1.at2)
              | (go_at_call 21; refine (eqlist21 _ _ _ _ _ K6.at4.ls_rd K6.at2.ls_rd).mono ?_; rw [d3.out]; rintro e w9 ⟨rfl, k9, rfl⟩; have K7 := K6.drewN k9)
              | (go_at_call 24; refine (upto24 pa pn t s' _ w _ K7.at3 o1.out o3.out).mono ?_; rintro e w10 ⟨A10, c10, rfl, K8⟩; replace K8 := K8.at1.at3.at3)
              | (go_at_call 25; refine (rupto25 pb pn t r' _ _ w _ K8.at1 o5.out o6.out).mono ?_; rintro e w11 ⟨A11, c11, rfl, K9⟩; replace K9 := K9.at1.at2))
          go_wp2_with fail
          go_roundg (n - (j + 1))
          case measure => have := hk.out; omega
          case rel =>
            refine ⟨j + 1, s', r', by omega, by go_num, hsr, ⟨hoa.out.more (by have := hws.out; omega) (by omega), hob.out.more (by have := hws.out; omega) (by omega)⟩, ?_⟩
            exact Hs.mk_ex _ (K10.tail.at1.tail.at2.tail.at2.tail.at2.tail.at2.tail)
      · have hj1 : decide ((j : Int) < (n : Int)) = false := by rw [decide_eq_false_iff_not]; omega
        have hj2 : decide (j < n) = false := by rw [decide_eq_false_iff_not]; omega
        clear hj
        go_wp2_with fail
        go_ret
        exact ⟨rfl, below_of H.out.tail.tail⟩
end Go.Proofs.Ytjlonfldcmcchaa

import Derived.Test.YtoiokmfdmpifiaaUn
import Derived.Test.YtoiokmfdmpifiaaSg
import Derived.Test.YtoiokmfdmpifiaaPp
import Derived.Test.YtoiokmfdmpifiaaRh
import Derived.Test.YtoiokmfdmpifiaaRj
import Derived.Test.YtoiokmfdmpifiaaEq
import Derived.Test.YtoiokmfdmpifiaaProg
import Derived.Test.YtoiokmfdmpifiaaLs
import Derived.Outline
import Derived.StillTailTactics
import Derived.Deep.DeepCutAuto
import Derived.Deep.CutBlock
import Derived.Deep.LoopGhost
import Derived.Deep.QuietTactic
import Derived.BigQuiet
import Derived.Deep.RegionHeld3
import Derived.Deep.RegionLaw
set_option linter.unusedVariables false
set_option linter.unusedSimpArgs false
namespace Go.Proofs.Ytoiokmfdmpifiaa
open Go.RowKit
set_option maxRecDepth 100000 in
set_option maxHeartbeats 8000000 in
theorem flowplays_walk (credits ep : Int) (A : Option Addr) (n c : Nat) (steps : List (Int × Int × Int × Int)) (w : World) (hcr : (Lit.int .i64 credits).wf = true) (hep : (Lit.int .u64 ep).wf = true) (hr : RdL EStep w (.slice A n c) steps) (hok : ∀ x ∈ steps, (Lit.int .i64 x.1).wf = true ∧ (Lit.int .i64 x.2.1).wf = true ∧ (Lit.int .u64 x.2.2.1).wf = true ∧ (Lit.int .u64 x.2.2.2).wf = true) :
    Calls Try.prog 7 #[.int .i64 credits, .int .u64 ep, .slice A n c] w fun e w' => e = .returned (.bool true) ∧ Below w.heap.size w w' := by
  clear hok hcr hep
  obtain ⟨hn, hnc, hc63⟩ := hr.caps
  replace hn := Lib.hid hn
  replace hr := Lib.hid hr
  by_cases hlong : 500 < (n : Int)
  · go_enter Try.func7, Try.ntmps7
    go_wp2_with fail
    refine (known8 w w _ (Hs.start w)).mono ?_
    rintro e w1 ⟨rfl, H⟩
    go_wp2_with fail
    go_ret
    exact ⟨rfl, below_of H⟩
  · replace hlong : (n : Int) ≤ 500 := by omega
    have F0 := Lib.hid (Pv.new credits ep)
    go_enter Try.func7, Try.ntmps7
    go_wp2_with fail
    refine (known8 w w _ (Hs.start w)).mono ?_
    rintro e w1 ⟨rfl, H⟩
    go_wp2_with fail
    refine (chan_new16 credits ep _ _ _ H).mono ?_
    rintro e w2 ⟨p, rfl, H⟩
    go_wp2_with fail
    refine (ref_new30 credits ep _ _ _ H).mono ?_
    rintro e w3 ⟨q, rfl, H⟩
    replace H := Lib.hid H.at1
    go_wp2_with fail
    go_loopg [9] n (fun k i wr => ∃ (j : Nat) (s : Ch Int), k + j = n ∧ i = .int .i64 j ∧ Hid (Pv s j) ∧ Hid (Hs w wr [ChanI p s, RefC q s, Old w]))
    case atStart => exact ⟨0, _, rfl, rfl, F0, H.out⟩
    case round =>
      clear H F0
      obtain ⟨j, s, hk, rfl, F, H⟩ := hrel
      have hjn : j ≤ n := by omega
      have hok : Hid s.Ok := F.out.ok (by omega)
      replace hk := Lib.hid hk
      rcases Nat.lt_or_ge j n with hj | hj
      · obtain ⟨g, off, rfl⟩ := hr.out.some_ (by have := hn.out; omega)
        obtain ⟨⟨b, d, e', q'⟩, hs⟩ : ∃ s, steps[j]? = some s := ⟨_, List.getElem?_eq_getElem (by have := hn.out; omega)⟩
        have hrd := hr.out.old H.out.at2
        have s0 : wr.cell? ⟨g, off + j * 4, none⟩ = some (.int .i64 b) := hrd.cell hs 0 rfl
        have s1 : wr.cell? ⟨g, off + j * 4 + 1, none⟩ = some (.int .i64 d) := hrd.cell hs 1 rfl
        have s2 : wr.cell? ⟨g, off + j * 4 + 2, none⟩ = some (.int .u64 e') := hrd.cell hs 2 rfl
        have s3 : wr.cell? ⟨g, off + j * 4 + 3, none⟩ = some (.int .u64 q') := hrd.cell hs 3 rfl
        have hg := lt_of_cell s0
        clear hrd hs
        have H1 : Hid (Hs w (wr.alloc (.cells #[.int .i64 b, .int .i64 d, .int .u64 e', .int .u64 q'] 40)) [Blk wr.heap.size (.cells #[.int .i64 b, .int .i64 d, .int .u64 e', .int .u64 q'] 40), ChanI p s, RefC q s, Old w]) := H.out.alloc _
        clear H
        go_upto_block 2 with (fail)
        clear s0 s1 s2 s3
        generalize wr.heap.size = bx at *
        generalize wr.alloc _ = wq at *
        go_cut [41] (fun _ wc => ∃ (s : Ch Int), Hid (Pv s (j + 1)) ∧ Hid (Hs w wc [ChanI p s, RefC q s, Old w]))
        case first =>
          have x1 : wq.cell? ⟨bx, 1, none⟩ = some (.int .i64 d) := H1.out.cellOf 1 rfl
          have x2 : wq.cell? ⟨bx, 2, none⟩ = some (.int .u64 e') := H1.out.cellOf 2 rfl
          rcases (show (b = 0 ∨ b = 1 ∨ b = 2) ∨ (b = 3 ∨ b = 4 ∨ b = 5) ∨ (b = 6 ∨ b = 7) ∨ (b = 8 ∨ b = 9 ∨ b = 10) ∨ b = 11 ∨ b = 12 ∨ b = 13 ∨ (b ≠ 0 ∧ b ≠ 1 ∧ b ≠ 2 ∧ b ≠ 3 ∧ b ≠ 4 ∧ b ≠ 5 ∧ b ≠ 6 ∧ b ≠ 7 ∧ b ≠ 8 ∧ b ≠ 9 ∧ b ≠ 10 ∧ b ≠ 11 ∧ b ≠ 12 ∧ b ≠ 13) by omega) with hb | hb | hb | hb | rfl | rfl | rfl | ⟨n0, n1, n2, n3, n4, n5, n6, n7, n8, n9, n10, n11, n12, n13⟩
          · as_aux_lemma =>
              rcases hb with rfl | rfl | rfl
              all_goals
                go_wp2_with fail
                refine (chan_offer17 p s d _ _ _ H1.out.at1 hok.out).mono ?_
                rintro e w3 ⟨rfl, H2⟩
                have y1 : w3.cell? ⟨bx, 1, none⟩ = some (.int .i64 d) := H2.at1.cellOf 1 rfl
                go_wp2_with fail
                refine (ref_offer31 q s d _ _ _ H2.at2 hok.out).mono ?_
                rintro e w4 ⟨rfl, H3⟩
                replace H3 := Lib.hid H3
                clear y1
                go_wp2_with fail
                go_meet
                case rel => exact ⟨_, F.out.offer d, H3.out.at2.drop.at1⟩
          · as_aux_lemma =>
              rcases hb with rfl | rfl | rfl
              all_goals
                go_wp2_with fail
                refine (chan_sends18 p s _ _ _ H1.out.at1 hok.out).mono ?_
                rintro e w3 ⟨rfl, H2⟩
                go_wp2_with fail
                refine (ref_sends32 q s _ _ _ H2.at2 hok.out).mono ?_
                rintro e w4 ⟨rfl, H3⟩
                replace H3 := Lib.hid H3
                go_wp2_with fail
                go_meet
                case rel => exact ⟨_, F.out.send.more (by omega), H3.out.at2.drop.at1⟩
          · as_aux_lemma =>
              rcases hb with rfl | rfl
              all_goals
                go_wp2_with fail
                refine (chan_deliver19 p s _ _ _ H1.out.at1 hok.out).mono ?_
                rintro e w3 ⟨rfl, H2⟩
                go_wp2_with fail
                refine (ref_deliver33 q s _ _ _ H2.at2 hok.out F.out.he).mono ?_
                rintro e w4 ⟨rfl, H3⟩
                replace H3 := Lib.hid H3
                go_wp2_with fail
                go_meet
                case rel => exact ⟨_, F.out.deliver.more (by omega), H3.out.at2.drop.at1⟩
          · as_aux_lemma =>
              rcases hb with rfl | rfl | rfl
              all_goals
                go_wp2_with fail
                refine (chan_take20 p s _ _ _ H1.out.at1 hok.out).mono ?_
                rintro e w3 ⟨rfl, H2⟩
                go_wp2_with fail
                refine (ref_take34 q s _ _ _ H2.at2).mono ?_
                rintro e w4 ⟨rfl, H3⟩
                replace H3 := Lib.hid H3
                go_wp2_with fail
                go_meet
                case rel => exact ⟨_, F.out.take.more (by omega), H3.out.at2.drop.at1⟩
          · as_aux_lemma =>
              have x3 : wq.cell? ⟨bx, 3, none⟩ = some (.int .u64 q') := H1.out.cellOf 3 rfl
              go_wp2_with fail
              go_region_held3 (fun w' => w'.cell? ⟨bx, 1, none⟩ = some (.int .i64 d) ∧ w'.cell? ⟨bx, 2, none⟩ = some (.int .u64 e') ∧ w'.cell? ⟨bx, 3, none⟩ = some (.int .u64 q'))
                (first | exact ⟨H1.out.drew.cellOf 1 rfl, H1.out.drew.cellOf 2 rfl, H1.out.drew.cellOf 3 rfl⟩ | exact ⟨H2.at1.cellOf 1 rfl, H2.at1.cellOf 2 rfl, H2.at1.cellOf 3 rfl⟩ | exact ⟨H3.at2.cellOf 1 rfl, H3.at2.cellOf 2 rfl, H3.at2.cellOf 3 rfl⟩)
                (first
                  | (go_at_call 22; refine (chan_arrives22 p s e' q' d _ w _ H1.out.drew.at1 hok.out).mono ?_; rintro e w3 ⟨rfl, H2⟩)
                  | (go_at_call 35; refine (ref_arrives35 q s e' q' d _ w _ H2.at2 hok.out).mono ?_; rintro e w4 ⟨rfl, H3⟩))
              clear x1 x2 x3 H1
              replace H3 := Lib.hid H3
              go_wp2_with fail
              go_meet
              case rel => exact ⟨_, F.out.arrive e' q' d, H3.out.at2.drop.at1⟩
          · as_aux_lemma =>
              go_wp2_with fail
              refine (chan_drain24 p s _ _ _ H1.out.at1 hok.out).mono ?_
              rintro e w3 ⟨D1, m1, k1, rfl, hm1, H2⟩
              replace hm1 := Lib.hid hm1
              go_wp2_with fail
              refine (ref_drain37 q s _ _ _ H2.at3 hok.out).mono ?_
              rintro e w4 ⟨D2, m2, k2, rfl, hm2, H3⟩
              replace hm2 := Lib.hid hm2
              go_wp2_with fail
              refine (eqlist36 _ _ s.rest s.rest _ H3.at2.ls_rd H3.ls_rd).mono ?_
              rintro e w5 ⟨rfl, mm, rfl⟩
              replace H3 := Lib.hid (H3.drewN mm)
              go_wp2_with fail
              go_meet
              case rel => exact ⟨_, F.out.drain.more (by omega), H3.out.drop.at1.drop.at1.at2.drop⟩
          · as_aux_lemma =>
              go_wp2_with fail
              refine (chan_kill21 p s e' _ _ _ H1.out.at1).mono ?_
              rintro e w3 ⟨rfl, H2⟩
              have y2 : w3.cell? ⟨bx, 2, none⟩ = some (.int .u64 e') := H2.at1.cellOf 2 rfl
              go_wp2_with fail
              refine (ref_kill38 q s e' _ _ _ H2.at2).mono ?_
              rintro e w4 ⟨rfl, H3⟩
              replace H3 := Lib.hid H3
              clear y2
              go_wp2_with fail
              go_meet
              case rel => exact ⟨_, (F.out.kill e').more (by omega), H3.out.at2.drop.at1⟩
          · as_aux_lemma =>
              go_wp2_with fail
              go_meet
              case rel => exact ⟨_, F.out.more (by omega), H1.out.drop⟩
        case rest =>
          clear F H1 hok
          obtain ⟨s, F, H⟩ := hcut
          have hok : Hid s.Ok := F.out.ok (by omega)
          have hwl : s.wait.length ≤ 501 := by have := F.out.tot; omega
          obtain ⟨A0, k0, A1, k1, A2, k2, A3, k3, HO⟩ := RefC.open_ H.out.at1
          have y0 : wc.cell? ⟨q, 0, none⟩ = some (.slice A0 s.back.length k0) := HO.cellOf 0 rfl
          have y1 : wc.cell? ⟨q, 1, none⟩ = some (.slice A1 s.mov.length k1) := HO.cellOf 1 rfl
          have y2 : wc.cell? ⟨q, 2, none⟩ = some (.slice A2 s.wait.length k2) := HO.cellOf 2 rfl
          have y8 : wc.cell? ⟨q, 8, none⟩ = some (.int .i64 s.gr) := HO.cellOf 8 rfl
          clear HO
          as_aux_lemma =>
            go_wp2_with fail
            go_quiet (first
              | (go_at_call 25; exact quiet_same (chan_backlog25 p s _ _ _ (H.out.drewN _)))
              | (go_at_call 26; exact quiet_same (chan_moving26 p s _ _ _ (H.out.drewN _)))
              | (go_at_call 27; exact quiet_same (chan_waiting27 p s _ _ _ (H.out.drewN _)))
              | (go_at_call 28; exact quiet_same (chan_most28 p s _ _ _ (H.out.drewN _)))
              | (go_at_call 23; exact quiet_same (chan_epoch23 p s _ _ _ (H.out.drewN _)))
              | (go_at_call 40; exact quiet_same (ref_epoch40 q s _ _ _ (H.out.at1.drewN _)))
              | (go_at_call 29; exact Calls.quiet_of (chan_credits29 p s _ _ _ (H.out.drewN _) hok.out))
              | (go_at_call 39; exact Calls.quiet_of (ref_credits39 q s _ _ _ (H.out.at1.drewN _) hok.out)))
            replace H := Lib.hid (H.out.drewN (by assumption))
            clear y0 y1 y2 y8
            go_wp2_with fail
            generalize wc.drewN _ = wd at *
            go_loopg [15] (s.wait.length + 2) (fun k kv wr => ∃ (i : Nat), k + i = s.wait.length + 2 ∧ kv = .int .i64 ((i : Int) - 1) ∧ Hid (Hs w wr [ChanI p s, RefC q s, Old w]))
            case atStart => exact ⟨0, rfl, rfl, H⟩
            case round =>
              clear H
              obtain ⟨i, hki, rfl, H⟩ := hrel
              replace hki := Lib.hid hki
              obtain ⟨A0, k0, A1, k1, A2, k2, A3, k3, HO⟩ := RefC.open_ H.out.at1
              have y2 : wr.cell? ⟨q, 2, none⟩ = some (.slice A2 s.wait.length k2) := HO.cellOf 2 rfl
              rcases (show i = 0 ∨ (∃ k, i = k + 1 ∧ k < s.wait.length) ∨ i = s.wait.length + 1 ∨ i = s.wait.length + 2 by
                have := hki.out
                rcases Nat.lt_or_ge i (s.wait.length + 1) with h | h
                · rcases i with _ | i
                  · exact .inl rfl
                  · exact .inr (.inl ⟨i, rfl, by omega⟩)
                · omega) with rfl | ⟨k, rfl, hk9⟩ | rfl | rfl
              · as_aux_lemma =>
                  clear HO
                  simp only [Int.natCast_zero, Int.zero_sub]
                  have hd1 : decide ((-1 : Int) ≤ (s.wait.length : Int)) = true := by rw [decide_eq_true_iff]; omega
                  go_wp2_with fail
                  refine (chan_peek41 p s (-1) _ _ _ H.out).mono ?_
                  rw [if_neg (by omega)]
                  rintro e w5 ⟨rfl, rfl⟩
                  go_wp2_with fail
                  go_roundg (s.wait.length + 2 - 1)
                  case measure => have := hki.out; omega
                  case rel => exact ⟨1, by omega, rfl, H⟩
              · as_aux_lemma =>
                  obtain ⟨g2, o2, rfl⟩ := HO.at3.ls_rd.some_ (by omega)
                  obtain ⟨x, hx⟩ : ∃ x, s.wait[k]? = some x := ⟨_, List.getElem?_eq_getElem hk9⟩
                  have ye : wr.cell? ⟨g2, o2 + k, none⟩ = some (.int .i64 x) := by
                    have := HO.at3.ls_rd.cell hx 0 rfl
                    simpa [Enc.num] using this
                  have hgd : Hid (s.wait.getD k 0 = x) := by show _ = _; rw [List.getD_eq_getElem?_getD, hx]; rfl
                  clear HO hx
                  rw [show (((k + 1 : Nat) : Int) - 1) = (k : Int) by omega]
                  have hk1 : (k : Int) < (s.wait.length : Int) := by omega
                  have hk2 : (k : Int) ≤ (s.wait.length : Int) := by omega
                  go_wp2_with fail
                  refine (chan_peek41 p s (k : Int) _ _ _ H.out).mono ?_
                  rw [if_pos ⟨by omega, hk1⟩, Int.toNat_natCast, hgd.out]
                  rintro e w5 ⟨rfl, rfl⟩
                  go_wp2_with fail
                  go_roundg (s.wait.length + 2 - (k + 1 + 1))
                  case measure => have := hki.out; omega
                  case rel => exact ⟨k + 1 + 1, by omega, by congr 1; omega, H⟩
              · as_aux_lemma =>
                  clear HO
                  rw [show (((s.wait.length + 1 : Nat) : Int) - 1) = (s.wait.length : Int) by omega]
                  go_wp2_with fail
                  refine (chan_peek41 p s (s.wait.length : Int) _ _ _ H.out).mono ?_
                  rw [if_neg (by omega)]
                  rintro e w5 ⟨rfl, rfl⟩
                  go_wp2_with fail
                  go_roundg 0
                  case measure => have := hki.out; omega
                  case rel => exact ⟨s.wait.length + 2, by omega, by congr 1; omega, H⟩
              · as_aux_lemma =>
                  clear HO
                  rw [show (((s.wait.length + 2 : Nat) : Int) - 1) = (s.wait.length : Int) + 1 by omega]
                  have hd1 : decide ((s.wait.length : Int) + 1 ≤ (s.wait.length : Int)) = false := by simp; omega
                  go_wp2_with fail
                  go_roundg (n - (j + 1))
                  case measure => have := hk.out; omega
                  case rel => exact ⟨j + 1, s, by omega, by simp, F, H⟩
      · have hj1 : (n : Int) ≤ (j : Int) := by omega
        go_wp2_with fail
        go_ret
        exact ⟨rfl, below_of H.out.drop.drop⟩
end Go.Proofs.Ytoiokmfdmpifiaa

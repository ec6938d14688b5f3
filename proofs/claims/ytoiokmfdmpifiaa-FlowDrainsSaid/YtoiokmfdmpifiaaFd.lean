import Derived.Test.YtoiokmfdmpifiaaUn
import Derived.Test.YtoiokmfdmpifiaaSg
import Derived.Test.YtoiokmfdmpifiaaProg
import Derived.Test.YtoiokmfdmpifiaaLs
import Derived.Outline
import Derived.StillTailTactics
import Derived.Deep.DeepCutAuto
import Derived.Deep.CutBlock
import Derived.Deep.LoopGhost
import Derived.Deep.QuietTactic
import Derived.BigQuiet
import Derived.Deep.RegionHeld3
import Derived.Deep.RegionLaw
set_option linter.unusedVariables false
set_option linter.unusedSimpArgs false
namespace Go.Proofs.Ytoiokmfdmpifiaa
open Go.RowKit
set_option maxRecDepth 100000 in
set_option maxHeartbeats 4000000 in
theorem flowdrains_walk (credits : Int) (A : Option Addr) (n c : Nat) (steps : List (Int × Int × Int × Int)) (nn : Int) (w : World) (hcr : (Lit.int .i64 credits).wf = true) (hr : RdL EStep w (.slice A n c) steps) (hok : ∀ x ∈ steps, (Lit.int .i64 x.1).wf = true ∧ (Lit.int .i64 x.2.1).wf = true ∧ (Lit.int .u64 x.2.2.1).wf = true ∧ (Lit.int .u64 x.2.2.2).wf = true) (hnn : (Lit.int .i64 nn).wf = true) :
    Calls Try.prog 5 #[.int .i64 credits, .slice A n c, .int .i64 nn] w fun e w' => e = .returned (.bool true) ∧ Below w.heap.size w w' := by
  clear hok hcr hnn
  obtain ⟨hn, hnc, hc63⟩ := hr.caps
  replace hn := Lib.hid hn
  replace hr := Lib.hid hr
  by_cases hlong : 300 < (n : Int)
  · go_enter Try.func5, Try.ntmps5
    go_wp2_with fail
    refine (known8 w w _ (Hs.start w)).mono ?_
    rintro e w1 ⟨rfl, H⟩
    go_wp2_with fail
    go_ret
    exact ⟨rfl, below_of H⟩
  · replace hlong : (n : Int) ≤ 300 := by omega
    obtain ⟨cr, hcr⟩ : ∃ cr, min (max credits 1) 64 = cr := ⟨_, rfl⟩
    have hcr1 : 1 ≤ cr ∧ cr ≤ 64 := by omega
    obtain ⟨q, hq⟩ : ∃ q : Nat, nn % 40 = (q : Int) := ⟨(nn % 40).toNat, by omega⟩
    have hq4 : q < 40 := by omega
    have F0 : Fl (Ch.fresh credits 3 : Ch Int) cr 3 1 [] := by have := Fl.new (α := Int) credits 3; rwa [hcr] at this
    replace hcr := Lib.hid hcr
    replace F0 := Lib.hid F0
    replace hq := Lib.hid hq
    go_enter Try.func5, Try.ntmps5
    go_wp2_with fail
    refine (known8 w w _ (Hs.start w)).mono ?_
    rintro e w1 ⟨rfl, H⟩
    go_wp2_with fail
    refine (place9 nn 40 _ (by omega) (by omega)).mono ?_
    rw [hq.out]
    rintro e w2 ⟨rfl, rfl⟩
    go_wp2_with fail
    refine (chan_new16 credits 3 _ _ _ H).mono ?_
    rintro e w2 ⟨p, rfl, H⟩
    replace H := Lib.hid H
    clear hcr
    go_wp2_with fail
    go_loopg [8, 9, 10] n (fun k nv av i wr => ∃ (j m a : Nat) (s : Ch Int), k + j = n ∧ i = .int .i64 j ∧ nv = .int .i64 m ∧ av = .int .i64 a ∧ a ≤ m ∧ m ≤ j ∧ Hid (Fl s cr 3 (j + 1) (seg a (m - a))) ∧ Hid (Hs w wr [ChanI p s, Old w]))
    case atStart => exact ⟨0, 0, 0, _, rfl, rfl, rfl, rfl, by omega, by omega, F0, H⟩
    case round =>
      clear H F0
      obtain ⟨j, m, a, s, hk, rfl, rfl, rfl, ham, hmj, F, H⟩ := hrel
      have hjn : j ≤ n := by omega
      have hok : Hid s.Ok := F.out.ok hcr1.1 hcr1.2 (by rw [seg_length]; omega)
      replace hk := Lib.hid hk
      rcases Nat.lt_or_ge j n with hj | hj
      · obtain ⟨g, off, rfl⟩ := hr.out.some_ (by have := hn.out; omega)
        obtain ⟨⟨b, d⟩, hs⟩ : ∃ s, steps[j]? = some s := ⟨_, List.getElem?_eq_getElem (by have := hn.out; omega)⟩
        have hrd := hr.out.old H.out.at1
        have s0 : wr.cell? ⟨g, off + j * 4, none⟩ = some (.int .i64 b) := hrd.cell hs 0 rfl
        clear hrd hs
        go_upto_block 1 with (fail)
        go_cut [8, 9] (fun nv av wc => ∃ (m a : Nat) (s : Ch Int), nv = .int .i64 m ∧ av = .int .i64 a ∧ a ≤ m ∧ m ≤ j + 1 ∧ Hid (Fl s cr 3 (j + 2) (seg a (m - a))) ∧ Hid (Hs w wc [ChanI p s, Old w]))
        case first =>
          rcases (show (b = 0 ∨ b = 1 ∨ b = 2) ∨ (b = 3 ∨ b = 4 ∨ b = 5) ∨ (b = 6 ∨ b = 7) ∨ (b = 8 ∨ b = 9 ∨ b = 10) ∨ b = 12 ∨ (b ≠ 0 ∧ b ≠ 1 ∧ b ≠ 2 ∧ b ≠ 3 ∧ b ≠ 4 ∧ b ≠ 5 ∧ b ≠ 6 ∧ b ≠ 7 ∧ b ≠ 8 ∧ b ≠ 9 ∧ b ≠ 10 ∧ b ≠ 12) by omega) with hb | hb | hb | hb | rfl | ⟨n0, n1, n2, n3, n4, n5, n6, n7, n8, n9, n10, n12⟩
          · rcases hb with rfl | rfl | rfl
            all_goals
              go_wp2_with fail
              refine (chan_offer17 p s m _ _ _ H.out hok.out).mono ?_
              rintro e w3 ⟨rfl, H1⟩
              replace H1 := Lib.hid H1
              go_wp2_with fail
              go_meet
              case rel =>
                refine ⟨m + 1, a, _, by simp, rfl, by omega, by omega, ?_, H1⟩
                have := (F.out.offer (m : Int)).more (C := j + 2) (by omega)
                rw [show seg a (m + 1 - a) = seg a (m - a) ++ [(m : Int)] from by rw [show m + 1 - a = (m - a) + 1 from by omega, ← seg_snoc, show a + (m - a) = m from by omega]]
                exact this
          · rcases hb with rfl | rfl | rfl
            all_goals
              go_wp2_with fail
              refine (chan_sends18 p s _ _ _ H.out hok.out).mono ?_
              rintro e w3 ⟨rfl, H1⟩
              replace H1 := Lib.hid H1
              go_wp2_with fail
              go_meet
              case rel => exact ⟨m, a, _, rfl, rfl, by omega, by omega, (F.out.send (by omega)).more (by omega), H1⟩
          · rcases hb with rfl | rfl
            all_goals
              go_wp2_with fail
              refine (chan_deliver19 p s _ _ _ H.out hok.out).mono ?_
              rintro e w3 ⟨rfl, H1⟩
              replace H1 := Lib.hid H1
              go_wp2_with fail
              go_meet
              case rel => exact ⟨m, a, _, rfl, rfl, by omega, by omega, (F.out.deliver (by omega)).2.more (by omega), H1⟩
          · cases hl : s.wait with
            | nil =>
              have ht := Lib.hid (F.out.take_nil hl)
              replace hl := Lib.hid hl
              rcases hb with rfl | rfl | rfl
              all_goals
                go_wp2_with fail
                refine (chan_take20 p s _ _ _ H.out hok.out).mono ?_
                rw [hl.out, ht.out]
                rintro e w3 ⟨rfl, H1⟩
                replace H1 := Lib.hid H1
                simp only [List.headD_nil, List.isEmpty_nil, Bool.not_true]
                go_wp2_with fail
                go_meet
                case rel => exact ⟨m, a, _, rfl, rfl, by omega, by omega, F.out.more (by omega), H1⟩
            | cons x r =>
              obtain ⟨ys, hx, F1⟩ := F.out.take_cons hl
              obtain ⟨k, hk2⟩ : ∃ k, m - a = k + 1 := ⟨m - a - 1, by
                have : m - a ≠ 0 := fun h => by rw [h] at hx; cases hx
                omega⟩
              rw [hk2] at hx
              injection hx with h1 h2
              subst h1
              have F2 : Hid (Fl s.take cr 3 (j + 2) (seg (a + 1) (m - (a + 1)))) := by
                rw [show m - (a + 1) = k from by omega, h2]
                exact F1.more (by omega)
              replace hl := Lib.hid hl
              clear F1
              have hk3 : a + 1 ≤ m := by omega
              clear hk2 h2
              rcases hb with rfl | rfl | rfl
              all_goals
                go_wp2_with fail
                refine (chan_take20 p s _ _ _ H.out hok.out).mono ?_
                rw [hl.out]
                rintro e w3 ⟨rfl, H1⟩
                replace H1 := Lib.hid H1
                simp only [List.headD_cons, List.isEmpty_cons, Bool.not_false]
                go_wp2_with fail
                go_meet
                case rel => exact ⟨m, a + 1, _, rfl, by simp, by omega, by omega, F2, H1⟩
          · have hre := Lib.hid F.out.rest
            have FD := Lib.hid (F.out.drain (by omega))
            have hsz : Hid (s.drain.back.length = 0 ∧ s.drain.mov.length = 0 ∧ s.drain.wait.length = 0) := ⟨rfl, rfl, rfl⟩
            go_wp2_with fail
            refine (chan_drain24 p s _ _ _ H.out hok.out).mono ?_
            rw [hre.out, seg_length]
            rintro e w3 ⟨A2, nn2, c2, rfl, hnn, H1⟩
            subst hnn
            replace H1 := Lib.hid H1
            have hne : (((m - a : Nat) : Int) != (m : Int) - (a : Int)) = false := by rw [bne_eq_false_iff_eq]; omega
            clear H hok F
            generalize hd : m - a = d at *
            have ha5 : a ≤ 500 := by omega
            have hd5 : d ≤ 500 := by omega
            have hm5 : m ≤ 500 := by omega
            replace hd := Lib.hid hd
            go_wp2_with fail
            go_loopg [14] d (fun k i wr => ∃ (j : Nat), k + j = d ∧ i = .int .i64 j ∧ Hid (Hs w wr [Ls (Enc.num .i64) 3 (.slice A2 d c2) (seg a d), ChanI p s.drain, Old w]))
            case atStart => exact ⟨0, rfl, rfl, H1⟩
            case round =>
              clear H1
              obtain ⟨i, hk1, rfl, H⟩ := hrel
              replace hk1 := Lib.hid hk1
              rcases Nat.lt_or_ge i d with hi | hi
              · have hi1 : (i : Int) < (d : Int) := by omega
                obtain ⟨g1, off1, rfl⟩ := H.out.ls_rd.some_ (by rw [seg_length]; omega)
                have s0 : wr.cell? ⟨g1, off1 + i, none⟩ = some (.int .i64 ((a + i : Nat) : Int)) := by
                  have := H.out.ls_rd.cell (seg_get d a i hi) 0 rfl
                  simpa [Enc.num] using this
                have hne : (((a + i : Nat) : Int) != (a : Int) + (i : Int)) = false := by rw [bne_eq_false_iff_eq]; omega
                go_wp2_with fail
                go_roundg (d - (i + 1))
                case measure => have := hk1.out; omega
                case rel => exact ⟨i + 1, by omega, by simp, H⟩
              · have hi1 : (d : Int) ≤ (i : Int) := by omega
                replace H := Lib.hid H.out.drop
                go_wp2_with fail
                refine (chan_backlog25 p _ _ _ _ H.out).mono ?_
                rw [hsz.out.1]
                rintro e w4 ⟨rfl, rfl⟩
                go_wp2_with fail
                refine (chan_moving26 p _ _ _ _ H.out).mono ?_
                rw [hsz.out.2.1]
                rintro e w4 ⟨rfl, rfl⟩
                go_wp2_with fail
                refine (chan_waiting27 p _ _ _ _ H.out).mono ?_
                rw [hsz.out.2.2]
                rintro e w4 ⟨rfl, rfl⟩
                go_wp2_with fail
                go_meet
                case rel => exact ⟨m, m, _, rfl, rfl, by omega, by omega, by rw [Nat.sub_self]; exact FD.out.more (by omega), H⟩
          · go_wp2_with fail
            go_meet
            case rel => exact ⟨m, a, _, rfl, rfl, by omega, by omega, F.out.more (by omega), H⟩
        case rest =>
          clear hok F H ham hmj
          obtain ⟨m, a, s, rfl, rfl, ham, hmj, F, H⟩ := hcut
          go_wp2_with fail
          go_roundg (n - (j + 1))
          case measure => have := hk.out; omega
          case rel => exact ⟨j + 1, m, a, s, by omega, by simp, rfl, rfl, by omega, by omega, F, H⟩
      · have hj1 : (n : Int) ≤ (j : Int) := by omega
        obtain rfl : n = j := by have := hk.out; omega
        have FD := Lib.hid ((F.out.drain (by omega)).more (C := 400) (by omega))
        go_wp2_with fail
        refine (chan_drain24 p s _ _ _ H.out hok.out).mono ?_
        rintro e w3 ⟨A2, n2, c2, rfl, hn2, H1⟩
        replace H1 := Lib.hid H1.drop
        clear hn2 H hok F
        go_wp2_with fail
        go_loopg [15] q (fun k i wr => ∃ (i' : Nat) (s : Ch Int), k + i' = q ∧ i = .int .i64 i' ∧ Hid (Fl s cr 3 400 (seg 1000 i')) ∧ Hid (Hs w wr [ChanI p s, Old w]))
        case atStart => exact ⟨0, _, rfl, rfl, FD, H1⟩
        case round =>
          clear H1 hk FD
          obtain ⟨i, s, hk, rfl, F, H⟩ := hrel
          replace hk := Lib.hid hk
          rcases Nat.lt_or_ge i q with hi | hi
          · have hi1 : (i : Int) < (q : Int) := by omega
            have hok : Hid s.Ok := F.out.ok hcr1.1 hcr1.2 (by rw [seg_length]; omega)
            go_wp2_with fail
            refine (chan_offer17 p s _ _ _ _ H.out hok.out).mono ?_
            rintro e w4 ⟨rfl, H1⟩
            replace H1 := Lib.hid H1
            go_wp2_with fail
            go_roundg (q - (i + 1))
            case measure => have := hk.out; omega
            case rel => exact ⟨i + 1, _, by omega, by simp, by rw [← seg_snoc]; exact F.out.offer _, H1⟩
          · have hi1 : (q : Int) ≤ (i : Int) := by omega
            obtain rfl : q = i := by have := hk.out; omega
            go_wp2_with fail
            go_loopg [16, 17] (3 * q + 3) (fun k gv i wr => ∃ (j got : Nat) (s : Ch Int), k + j = 3 * q + 3 ∧ i = .int .i64 j ∧ gv = .int .i64 got ∧ got = min j q ∧ Hid (Fl s cr 3 (400 + j) (seg (1000 + got) (q - got))) ∧ Hid (Hs w wr [ChanI p s, Old w]))
            case atStart => exact ⟨0, 0, s, rfl, rfl, rfl, by omega, F, H⟩
            case round =>
              clear H hk F
              obtain ⟨j, got, s, hk, rfl, rfl, hgot, F, H⟩ := hrel
              have hjb : j ≤ 200 := by omega
              replace hk := Lib.hid hk
              rcases Nat.lt_or_ge j (3 * q + 3) with hj | hj
              · have hj1 : (j : Int) < 3 * (q : Int) + 3 := by omega
                have hok : Hid s.Ok := F.out.ok hcr1.1 hcr1.2 (by rw [seg_length]; omega)
                have F1 := F.out.send (by omega)
                have hok1 : Hid s.send.Ok := F1.ok hcr1.1 hcr1.2 (by rw [seg_length]; omega)
                have F2 := F1.deliver (by omega)
                have hok2 : Hid s.send.deliver.Ok := F2.2.ok hcr1.1 hcr1.2 (by rw [seg_length]; omega)
                have hgotb : got ≤ 40 := by omega
                rcases Nat.lt_or_ge got q with hg | hg
                · obtain ⟨ws, hw⟩ := F.out.moved hcr1.1 (by omega) (x := ((1000 + got : Nat) : Int)) (r := seg (1000 + got + 1) (q - got - 1)) (by rw [show q - got = (q - got - 1) + 1 from by omega]; rfl)
                  obtain ⟨ys, hy, F3⟩ := F2.2.take_cons hw
                  have hys : ys = seg (1000 + (got + 1)) (q - (got + 1)) := by
                    rw [show q - got = (q - (got + 1)) + 1 from by omega] at hy
                    injection hy with _ h
                    rw [← h]
                    rfl
                  subst hys
                  have hcd := Lib.hid F2.1
                  replace F3 := Lib.hid F3
                  replace hw := Lib.hid hw
                  have hgot1 : Hid (got = j) := by show _ = _; omega
                  have hne : (((1000 + got : Nat) : Int) != 1000 + (got : Int)) = false := by rw [bne_eq_false_iff_eq]; omega
                  clear F1 F2 hgot hy
                  go_wp2_with fail
                  refine (chan_sends18 p s _ _ _ H.out hok.out).mono ?_
                  rintro e w4 ⟨rfl, H1⟩
                  go_wp2_with fail
                  refine (chan_deliver19 p _ _ _ _ H1 hok1.out).mono ?_
                  rintro e w5 ⟨rfl, H2⟩
                  rcases hcd.out with h | h
                  all_goals
                    rw [h]
                    clear h
                    go_wp2_with fail
                    refine (chan_take20 p _ _ _ _ H2 hok2.out).mono ?_
                    rw [hw.out]
                    rintro e w6 ⟨rfl, H3⟩
                    simp only [List.headD_cons, List.isEmpty_cons, Bool.not_false]
                    replace H3 := Lib.hid H3
                    go_wp2_with fail
                    go_roundg (3 * q + 3 - (j + 1))
                    case measure => have := hk.out; omega
                    case rel => exact ⟨j + 1, got + 1, _, by omega, by simp, by simp, by have := hgot1.out; omega, F3.out.more (by omega), H3⟩
                · have hq0 : q - got = 0 := by omega
                  rw [hq0] at F2
                  have hw : Hid (s.send.deliver.wait = []) := F2.2.idle
                  have F3 : Hid (Fl s.send.deliver.take cr 3 (400 + j + 1) (seg (1000 + got) 0)) := by
                    show Fl _ _ _ _ _
                    rw [F2.2.take_nil hw.out]
                    exact F2.2
                  have hcd := Lib.hid F2.1
                  replace hgot := Lib.hid hgot
                  clear F1 F2
                  go_wp2_with fail
                  refine (chan_sends18 p s _ _ _ H.out hok.out).mono ?_
                  rintro e w4 ⟨rfl, H1⟩
                  go_wp2_with fail
                  refine (chan_deliver19 p _ _ _ _ H1 hok1.out).mono ?_
                  rintro e w5 ⟨rfl, H2⟩
                  rcases hcd.out with h | h
                  all_goals
                    rw [h]
                    clear h
                    go_wp2_with fail
                    refine (chan_take20 p _ _ _ _ H2 hok2.out).mono ?_
                    rw [hw.out]
                    rintro e w6 ⟨rfl, H3⟩
                    simp only [List.headD_nil, List.isEmpty_nil, Bool.not_true]
                    replace H3 := Lib.hid H3
                    go_wp2_with fail
                    go_roundg (3 * q + 3 - (j + 1))
                    case measure => have := hk.out; omega
                    case rel => exact ⟨j + 1, got, _, by omega, by simp, rfl, by have := hgot.out; omega, by rw [hq0]; exact F3.out.more (by omega), H3⟩
              · have hj1 : 3 * (q : Int) + 3 ≤ (j : Int) := by omega
                have hgq : got = q := by omega
                subst hgq
                have hep := Lib.hid F.out.hep
                clear hgot
                go_wp2_with fail
                refine (chan_epoch23 p s _ _ _ H.out).mono ?_
                rw [hep.out]
                rintro e w4 ⟨rfl, rfl⟩
                go_wp2_with fail
                go_ret
                exact ⟨rfl, below_of H.out.drop⟩
end Go.Proofs.Ytoiokmfdmpifiaa

import Derived.Test.YtoiokmfdmpifiaaUn
import Derived.Test.YtoiokmfdmpifiaaSg
import Derived.Test.YtoiokmfdmpifiaaProg
import Derived.Test.YtoiokmfdmpifiaaLs
import Derived.Outline
import Derived.StillTailTactics
import Derived.Deep.DeepCutAuto
import Derived.Deep.CutBlock
import Derived.Deep.LoopGhost
import Derived.Deep.QuietTactic
import Derived.BigQuiet
import Derived.Deep.RegionHeld3
import Derived.Deep.RegionLaw
set_option linter.unusedVariables false
set_option linter.unusedSimpArgs false
namespace Go.Proofs.Ytoiokmfdmpifiaa
open Go.RowKit
set_option maxRecDepth 100000 in
set_option maxHeartbeats 1000000 in
theorem flowholds_walk (credits : Int) (A : Option Addr) (n c : Nat) (steps : List (Int × Int × Int × Int)) (w : World) (hcr : (Lit.int .i64 credits).wf = true) (hr : RdL EStep w (.slice A n c) steps) (hok : ∀ x ∈ steps, (Lit.int .i64 x.1).wf = true ∧ (Lit.int .i64 x.2.1).wf = true ∧ (Lit.int .u64 x.2.2.1).wf = true ∧ (Lit.int .u64 x.2.2.2).wf = true) :
    Calls Try.prog 6 #[.int .i64 credits, .slice A n c] w fun e w' => e = .returned (.bool true) ∧ Below w.heap.size w w' := by
  clear hok hcr
  obtain ⟨hn, hnc, hc63⟩ := hr.caps
  replace hn := Lib.hid hn
  replace hr := Lib.hid hr
  by_cases hlong : 500 < (n : Int)
  · go_enter Try.func6, Try.ntmps6
    go_wp2_with fail
    refine (known8 w w _ (Hs.start w)).mono ?_
    rintro e w1 ⟨rfl, H⟩
    go_wp2_with fail
    go_ret
    exact ⟨rfl, below_of H⟩
  · replace hlong : (n : Int) ≤ 500 := by omega
    obtain ⟨cr, hcr⟩ : ∃ cr, min (max credits 1) 64 = cr := ⟨_, rfl⟩
    have hcr1 : 1 ≤ cr ∧ cr ≤ 64 := by omega
    have hcrc : (credits < 1 ∧ cr = 1) ∨ (1 ≤ credits ∧ credits ≤ 64 ∧ cr = credits) ∨ (64 < credits ∧ cr = 64) := by omega
    have F0 : Fl (Ch.fresh credits 7 : Ch Int) cr 7 1 [] := by have := Fl.new (α := Int) credits 7; rwa [hcr] at this
    have hif : (if (64 : Int) < (if credits < 1 then 1 else credits) then 64 else (if credits < 1 then 1 else credits)) = cr := by split <;> split at * <;> omega
    replace hif := Lib.hid hif
    replace hcr := Lib.hid hcr
    replace F0 := Lib.hid F0
    go_enter Try.func6, Try.ntmps6
    go_wp2_with fail
    refine (known8 w w _ (Hs.start w)).mono ?_
    rintro e w1 ⟨rfl, H⟩
    go_wp2_with fail
    refine (chan_new16 credits 7 _ _ _ H).mono ?_
    rintro e w2 ⟨p, rfl, H⟩
    replace H := Lib.hid H
    clear hcrc
    go_upto_region 8 with (fail)
    rw [hif.out]
    clear hif hcr
    generalize (if credits < 1 then (1 : Int) else credits) = z
    go_wp2_with fail
    go_loopg [7, 8, 9] n (fun k nv av i wr => ∃ (j m a : Nat) (s : Ch Int), k + j = n ∧ i = .int .i64 j ∧ nv = .int .i64 m ∧ av = .int .i64 a ∧ a ≤ m ∧ m ≤ j ∧ Hid (Fl s cr 7 (j + 1) (seg a (m - a))) ∧ Hid (Hs w wr [ChanI p s, Old w]))
    case atStart => exact ⟨0, 0, 0, _, rfl, rfl, rfl, rfl, by omega, by omega, F0, H⟩
    case round =>
      clear H F0
      obtain ⟨j, m, a, s, hk, rfl, rfl, rfl, ham, hmj, F, H⟩ := hrel
      have hjn : j ≤ n := by omega
      have hok : Hid s.Ok := F.out.ok hcr1.1 hcr1.2 (by rw [seg_length]; omega)
      replace hk := Lib.hid hk
      rcases Nat.lt_or_ge j n with hj | hj
      · obtain ⟨g, off, rfl⟩ := hr.out.some_ (by have := hn.out; omega)
        obtain ⟨⟨b, d⟩, hs⟩ : ∃ s, steps[j]? = some s := ⟨_, List.getElem?_eq_getElem (by have := hn.out; omega)⟩
        have hrd := hr.out.old H.out.at1
        have s0 : wr.cell? ⟨g, off + j * 4, none⟩ = some (.int .i64 b) := hrd.cell hs 0 rfl
        clear hrd hs
        go_upto_block 2 with (fail)
        clear s0
        go_cut [7, 8] (fun nv av wc => ∃ (m a : Nat) (s : Ch Int), nv = .int .i64 m ∧ av = .int .i64 a ∧ a ≤ m ∧ m ≤ j + 1 ∧ Hid (Fl s cr 7 (j + 2) (seg a (m - a))) ∧ Hid (Hs w wc [ChanI p s, Old w]))
        case first =>
          rcases (show (b = 0 ∨ b = 1 ∨ b = 2) ∨ (b = 3 ∨ b = 4 ∨ b = 5) ∨ (b = 6 ∨ b = 7) ∨ (b = 8 ∨ b = 9 ∨ b = 10) ∨ (b ≠ 0 ∧ b ≠ 1 ∧ b ≠ 2 ∧ b ≠ 3 ∧ b ≠ 4 ∧ b ≠ 5 ∧ b ≠ 6 ∧ b ≠ 7 ∧ b ≠ 8 ∧ b ≠ 9 ∧ b ≠ 10) by omega) with hb | hb | hb | hb | ⟨n0, n1, n2, n3, n4, n5, n6, n7, n8, n9, n10⟩
          · rcases hb with rfl | rfl | rfl
            all_goals
              go_wp2_with fail
              refine (chan_offer17 p s m _ _ _ H.out hok.out).mono ?_
              rintro e w3 ⟨rfl, H1⟩
              replace H1 := Lib.hid H1
              go_wp2_with fail
              go_meet
              case rel =>
                refine ⟨m + 1, a, _, by simp, rfl, by omega, by omega, ?_, H1⟩
                have := (F.out.offer (m : Int)).more (C := j + 2) (by omega)
                rw [show seg a (m + 1 - a) = seg a (m - a) ++ [(m : Int)] from by rw [show m + 1 - a = (m - a) + 1 from by omega, ← seg_snoc, show a + (m - a) = m from by omega]]
                exact this
          · rcases hb with rfl | rfl | rfl
            all_goals
              go_wp2_with fail
              refine (chan_sends18 p s _ _ _ H.out hok.out).mono ?_
              rintro e w3 ⟨rfl, H1⟩
              replace H1 := Lib.hid H1
              go_wp2_with fail
              go_meet
              case rel => exact ⟨m, a, _, rfl, rfl, by omega, by omega, (F.out.send (by omega)).more (by omega), H1⟩
          · have hd := (F.out.deliver (by omega)).1
            replace hd : Hid (s.dlv = 0 ∨ s.dlv = 52) := hd
            rcases hb with rfl | rfl
            all_goals
              go_wp2_with fail
              refine (chan_deliver19 p s _ _ _ H.out hok.out).mono ?_
              rintro e w3 ⟨rfl, H1⟩
              replace H1 := Lib.hid H1
              rcases hd.out with h | h
              all_goals
                rw [h]
                clear h
                go_wp2_with fail
                go_meet
                case rel => exact ⟨m, a, _, rfl, rfl, by omega, by omega, (F.out.deliver (by omega)).2.more (by omega), H1⟩
          · cases hl : s.wait with
            | nil =>
              have ht := Lib.hid (F.out.take_nil hl)
              replace hl := Lib.hid hl
              rcases hb with rfl | rfl | rfl
              all_goals
                go_wp2_with fail
                refine (chan_take20 p s _ _ _ H.out hok.out).mono ?_
                rw [hl.out, ht.out]
                rintro e w3 ⟨rfl, H1⟩
                replace H1 := Lib.hid H1
                simp only [List.headD_nil, List.isEmpty_nil, Bool.not_true]
                go_wp2_with fail
                go_meet
                case rel => exact ⟨m, a, _, rfl, rfl, by omega, by omega, F.out.more (by omega), H1⟩
            | cons x r =>
              obtain ⟨ys, hx, F1⟩ := F.out.take_cons hl
              obtain ⟨k, hk2⟩ : ∃ k, m - a = k + 1 := ⟨m - a - 1, by
                have : m - a ≠ 0 := fun h => by rw [h] at hx; cases hx
                omega⟩
              rw [hk2] at hx
              injection hx with h1 h2
              subst h1
              have F2 : Hid (Fl s.take cr 7 (j + 2) (seg (a + 1) (m - (a + 1)))) := by
                rw [show m - (a + 1) = k from by omega, h2]
                exact F1.more (by omega)
              replace hl := Lib.hid hl
              clear F1
              have hk3 : a + 1 ≤ m := by omega
              clear hk2 h2
              rcases hb with rfl | rfl | rfl
              all_goals
                go_wp2_with fail
                refine (chan_take20 p s _ _ _ H.out hok.out).mono ?_
                rw [hl.out]
                rintro e w3 ⟨rfl, H1⟩
                replace H1 := Lib.hid H1
                simp only [List.headD_cons, List.isEmpty_cons, Bool.not_false]
                go_wp2_with fail
                go_meet
                case rel => exact ⟨m, a + 1, _, rfl, by simp, by omega, by omega, F2, H1⟩
          · go_wp2_with fail
            go_meet
            case rel => exact ⟨m, a, _, rfl, rfl, by omega, by omega, F.out.more (by omega), H⟩
        case rest =>
          clear hok F H ham hmj
          obtain ⟨m, a, s, rfl, rfl, ham, hmj, F, H⟩ := hcut
          obtain ⟨z1, z2⟩ := F.out.sizes
          rw [seg_length] at z1
          have z3 := F.out.hgr
          have z4 : ((s.mov.length : Int) + s.wait.length ≤ cr) := z2
          have z5 : (((s.back.length : Int) + s.mov.length + s.wait.length) != ((m : Int) - a)) = false := by rw [bne_eq_false_iff_eq]; omega
          have z6 : s.back.length ≤ 1000 := by omega
          clear z2 z1
          go_wp2_with fail
          refine (chan_moving26 p s _ _ _ H.out).mono ?_
          rintro e w4 ⟨rfl, rfl⟩
          go_wp2_with fail
          refine (chan_waiting27 p s _ _ _ H.out).mono ?_
          rintro e w4 ⟨rfl, rfl⟩
          go_wp2_with fail
          refine (chan_most28 p s _ _ _ H.out).mono ?_
          rintro e w4 ⟨rfl, rfl⟩
          go_wp2_with fail
          refine (chan_backlog25 p s _ _ _ H.out).mono ?_
          rintro e w4 ⟨rfl, rfl⟩
          go_wp2_with fail
          refine (chan_moving26 p s _ _ _ H.out).mono ?_
          rintro e w4 ⟨rfl, rfl⟩
          go_wp2_with fail
          refine (chan_waiting27 p s _ _ _ H.out).mono ?_
          rintro e w4 ⟨rfl, rfl⟩
          go_wp2_with fail
          go_roundg (n - (j + 1))
          case measure => have := hk.out; omega
          case rel => exact ⟨j + 1, m, a, s, by omega, by simp, rfl, rfl, by omega, by omega, F, H⟩
      · have hj1 : (n : Int) ≤ (j : Int) := by omega
        obtain rfl : n = j := by have := hk.out; omega
        have hre := Lib.hid F.out.rest
        have hdc : Hid (s.drain.Ok) := (F.out.drain (by omega)).ok hcr1.1 hcr1.2 (by simp)
        have hcd : Hid (s.drain.cred = cr) := by
          show _ = _
          have : s.drain.cred = s.cr - 0 - 0 := rfl
          rw [this, F.out.hcr]; omega
        go_wp2_with fail
        refine (chan_drain24 p s _ _ _ H.out hok.out).mono ?_
        rw [hre.out, seg_length]
        rintro e w3 ⟨A2, nn, c2, rfl, hnn, H1⟩
        subst hnn
        replace H1 := Lib.hid H1
        clear H hok F
        go_wp2_with fail
        go_loopg [14] (m - a) (fun k i wr => ∃ (j : Nat), k + j = m - a ∧ i = .int .i64 j ∧ Hid (Hs w wr [Ls (Enc.num .i64) 3 (.slice A2 (m - a) c2) (seg a (m - a)), ChanI p s.drain, Old w]))
        case atStart => exact ⟨0, rfl, rfl, H1⟩
        case round =>
          clear H1 hk
          obtain ⟨i, hk, rfl, H⟩ := hrel
          replace hk := Lib.hid hk
          generalize hd : m - a = d at *
          have ha5 : a ≤ 500 := by omega
          have hd5 : d ≤ 500 := by omega
          have hfin : ((d : Int) == (m : Int) - (a : Int)) = true := by rw [beq_iff_eq]; omega
          have hm5 : m ≤ 500 := by omega
          replace hd := Lib.hid hd
          rcases Nat.lt_or_ge i d with hi | hi
          · have hi1 : (i : Int) < (d : Int) := by omega
            obtain ⟨g, off, rfl⟩ := H.out.ls_rd.some_ (by rw [seg_length]; omega)
            have s0 : wr.cell? ⟨g, off + i, none⟩ = some (.int .i64 ((a + i : Nat) : Int)) := by
              have := H.out.ls_rd.cell (seg_get d a i hi) 0 rfl
              simpa [Enc.num] using this
            have hne : (((a + i : Nat) : Int) != (a : Int) + (i : Int)) = false := by rw [bne_eq_false_iff_eq]; omega
            go_wp2_with fail
            go_roundg (d - (i + 1))
            case measure => have := hk.out; omega
            case rel => exact ⟨i + 1, by omega, by simp, H⟩
          · have hi1 : (d : Int) ≤ (i : Int) := by omega
            clear ham hmj
            go_wp2_with fail
            refine (chan_credits29 p s.drain _ _ _ H.out.at1 hdc.out).mono ?_
            rw [hcd.out]
            rintro e w5 ⟨rfl, q, rfl⟩
            go_wp2_with fail
            go_ret
            exact ⟨rfl, below_of (H.out.drewN q).drop.drop⟩
end Go.Proofs.Ytoiokmfdmpifiaa

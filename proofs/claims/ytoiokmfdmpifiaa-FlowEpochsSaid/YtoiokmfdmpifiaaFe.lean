import Derived.Test.YtoiokmfdmpifiaaUn
import Derived.Test.YtoiokmfdmpifiaaSg
import Derived.Test.YtoiokmfdmpifiaaProg
import Derived.Test.YtoiokmfdmpifiaaLs
import Derived.Outline
import Derived.StillTailTactics
import Derived.Deep.DeepCutAuto
import Derived.Deep.CutBlock
import Derived.Deep.LoopGhost
import Derived.Deep.QuietTactic
import Derived.BigQuiet
import Derived.Deep.RegionHeld3
import Derived.Deep.RegionLaw
set_option linter.unusedVariables false
set_option linter.unusedSimpArgs false
namespace Go.Proofs.Ytoiokmfdmpifiaa
open Go.RowKit
set_option maxRecDepth 100000 in
set_option maxHeartbeats 4000000 in
theorem flowepochs_walk (credits : Int) (A : Option Addr) (n c : Nat) (steps : List (Int × Int × Int × Int)) (A' : Option Addr) (n' c' : Nat) (late : List (Int × Int × Int × Int)) (w : World) (hcr : (Lit.int .i64 credits).wf = true) (hr : RdL EStep w (.slice A n c) steps) (hok : ∀ x ∈ steps, (Lit.int .i64 x.1).wf = true ∧ (Lit.int .i64 x.2.1).wf = true ∧ (Lit.int .u64 x.2.2.1).wf = true ∧ (Lit.int .u64 x.2.2.2).wf = true) (hr' : RdL EStep w (.slice A' n' c') late) (hok' : ∀ x ∈ late, (Lit.int .i64 x.1).wf = true ∧ (Lit.int .i64 x.2.1).wf = true ∧ (Lit.int .u64 x.2.2.1).wf = true ∧ (Lit.int .u64 x.2.2.2).wf = true) :
    Calls Try.prog 4 #[.int .i64 credits, .slice A n c, .slice A' n' c'] w fun e w' => e = .returned (.bool true) ∧ Below w.heap.size w w' := by
  clear hok hcr hok'
  obtain ⟨hn, hnc, hc63⟩ := hr.caps
  obtain ⟨hn', hnc', hc63'⟩ := hr'.caps
  replace hn := Lib.hid hn
  replace hr := Lib.hid hr
  replace hn' := Lib.hid hn'
  replace hr' := Lib.hid hr'
  rcases (show 300 < (n : Int) ∨ ((n : Int) ≤ 300 ∧ 100 < (n' : Int)) ∨ ((n : Int) ≤ 300 ∧ (n' : Int) ≤ 100) by omega) with hlong | ⟨hlong, hlong'⟩ | ⟨hlong, hlong'⟩
  · have hd1 : decide (300 < (n : Int)) = true := by simpa using hlong
    go_enter Try.func4, Try.ntmps4
    go_wp2_with fail
    refine (known8 w w _ (Hs.start w)).mono ?_
    rintro e w1 ⟨rfl, H⟩
    go_wp2_with fail
    go_ret
    exact ⟨rfl, below_of H⟩
  · have hd1 : decide (300 < (n : Int)) = false := by simp; omega
    have hd2 : decide (100 < (n' : Int)) = true := by simpa using hlong'
    go_enter Try.func4, Try.ntmps4
    go_wp2_with fail
    refine (known8 w w _ (Hs.start w)).mono ?_
    rintro e w1 ⟨rfl, H⟩
    go_wp2_with fail
    go_ret
    exact ⟨rfl, below_of H⟩
  · have hd1 : decide (300 < (n : Int)) = false := by simp; omega
    have hd2 : decide (100 < (n' : Int)) = false := by simp; omega
    obtain ⟨cr, hcr⟩ : ∃ cr, min (max credits 1) 64 = cr := ⟨_, rfl⟩
    have hcr1 : 1 ≤ cr ∧ cr ≤ 64 := by omega
    have F0 : Fl (Ch.fresh credits 5 : Ch Int) cr 5 1 [] := by have := Fl.new (α := Int) credits 5; rwa [hcr] at this
    replace hcr := Lib.hid hcr
    replace F0 := Lib.hid F0
    go_enter Try.func4, Try.ntmps4
    go_wp2_with fail
    refine (known8 w w _ (Hs.start w)).mono ?_
    rintro e w1 ⟨rfl, H⟩
    go_wp2_with fail
    refine (chan_new16 credits 5 _ _ _ H).mono ?_
    rintro e w2 ⟨p, rfl, H⟩
    replace H := Lib.hid H
    clear hcr hd1 hd2
    go_wp2_with fail
    go_loopg [8] n (fun k i wr => ∃ (j : Nat) (xs : List Int) (s : Ch Int), k + j = n ∧ i = .int .i64 j ∧ xs.length ≤ j ∧ Hid (Fl s cr 5 (j + 1) xs) ∧ Hid (Hs w wr [ChanI p s, Old w]))
    case atStart => exact ⟨0, [], _, rfl, rfl, by simp, F0, H⟩
    case round =>
      clear H F0
      obtain ⟨j, xs, s, hk, rfl, hxs, F, H⟩ := hrel
      have hjn : j ≤ n := by omega
      have hok : Hid s.Ok := F.out.ok hcr1.1 hcr1.2 (by omega)
      replace hk := Lib.hid hk
      rcases Nat.lt_or_ge j n with hj | hj
      · obtain ⟨g, off, rfl⟩ := hr.out.some_ (by have := hn.out; omega)
        obtain ⟨⟨b, d⟩, hs⟩ : ∃ s, steps[j]? = some s := ⟨_, List.getElem?_eq_getElem (by have := hn.out; omega)⟩
        have hrd := hr.out.old H.out.at1
        have s0 : wr.cell? ⟨g, off + j * 4, none⟩ = some (.int .i64 b) := hrd.cell hs 0 rfl
        clear hrd hs
        go_upto_block 1 with (fail)
        go_cut [39] (fun _ wc => ∃ (xs : List Int) (s : Ch Int), xs.length ≤ j + 1 ∧ Hid (Fl s cr 5 (j + 2) xs) ∧ Hid (Hs w wc [ChanI p s, Old w]))
        case first =>
          rcases (show (b = 0 ∨ b = 1 ∨ b = 2) ∨ (b = 3 ∨ b = 4 ∨ b = 5) ∨ (b = 6 ∨ b = 7) ∨ b = 8 ∨ (b ≠ 0 ∧ b ≠ 1 ∧ b ≠ 2 ∧ b ≠ 3 ∧ b ≠ 4 ∧ b ≠ 5 ∧ b ≠ 6 ∧ b ≠ 7 ∧ b ≠ 8) by omega) with hb | hb | hb | rfl | ⟨n0, n1, n2, n3, n4, n5, n6, n7, n8⟩
          · rcases hb with rfl | rfl | rfl
            all_goals
              go_wp2_with fail
              refine (chan_offer17 p s (-1) _ _ _ H.out hok.out).mono ?_
              rintro e w3 ⟨rfl, H1⟩
              replace H1 := Lib.hid H1
              go_wp2_with fail
              go_meet
              case rel => exact ⟨_, _, by rw [List.length_append]; simp; omega, (F.out.offer (-1)).more (by omega), H1⟩
          · rcases hb with rfl | rfl | rfl
            all_goals
              go_wp2_with fail
              refine (chan_sends18 p s _ _ _ H.out hok.out).mono ?_
              rintro e w3 ⟨rfl, H1⟩
              replace H1 := Lib.hid H1
              go_wp2_with fail
              go_meet
              case rel => exact ⟨_, _, by omega, (F.out.send (by omega)).more (by omega), H1⟩
          · rcases hb with rfl | rfl
            all_goals
              go_wp2_with fail
              refine (chan_deliver19 p s _ _ _ H.out hok.out).mono ?_
              rintro e w3 ⟨rfl, H1⟩
              replace H1 := Lib.hid H1
              go_wp2_with fail
              go_meet
              case rel => exact ⟨_, _, by omega, (F.out.deliver (by omega)).2.more (by omega), H1⟩
          · go_wp2_with fail
            refine (chan_take20 p s _ _ _ H.out hok.out).mono ?_
            rintro e w3 ⟨rfl, H1⟩
            replace H1 := Lib.hid H1
            go_wp2_with fail
            go_meet
            case rel =>
              cases hl : s.wait with
              | nil => exact ⟨xs, _, by omega, by rw [F.out.take_nil hl]; exact F.out.more (by omega), H1⟩
              | cons x r =>
                obtain ⟨ys, hx, F1⟩ := F.out.take_cons hl
                exact ⟨ys, _, by rw [hx] at hxs; simp at hxs; omega, F1.more (by omega), H1⟩
          · go_wp2_with fail
            go_meet
            case rel => exact ⟨xs, s, by omega, F.out.more (by omega), H⟩
        case rest =>
          clear hok F H hxs
          obtain ⟨xs, s, hxs, F, H⟩ := hcut
          go_wp2_with fail
          go_roundg (n - (j + 1))
          case measure => have := hk.out; omega
          case rel => exact ⟨j + 1, xs, s, by omega, by simp, by omega, F, H⟩
      · have hj1 : (n : Int) ≤ (j : Int) := by omega
        obtain rfl : n = j := by have := hk.out; omega
        have FK : Hid (Fl (s.kill 9) cr 9 1 []) := F.out.kill (by omega) 9
        go_wp2_with fail
        refine (chan_kill21 p s 9 _ _ _ H.out).mono ?_
        rintro e w3 ⟨rfl, H1⟩
        replace H1 := Lib.hid H1
        clear H hok F hk
        go_wp2_with fail
        go_loopg [9, 10] 40 (fun k nv i wr => ∃ (j m : Nat) (s : Ch Int), k + j = 40 ∧ i = .int .i64 j ∧ nv = .int .i64 m ∧ m ≤ j ∧ Hid (Fl s cr 9 (j + 1) (seg m (j - m))) ∧ Hid (Hs w wr [ChanI p s, Old w]))
        case atStart => exact ⟨0, 0, _, rfl, rfl, rfl, by omega, FK, H1⟩
        case round =>
          clear H1 FK
          obtain ⟨j, m, s, hk, rfl, rfl, hmj, F, H⟩ := hrel
          have hj40 : j ≤ 40 := by omega
          replace hk := Lib.hid hk
          have hok : Hid s.Ok := F.out.ok hcr1.1 hcr1.2 (by rw [seg_length]; omega)
          rcases Nat.lt_or_ge j 40 with hj | hj
          · have hj1 : (j : Int) < 40 := by omega
            have F1 : Fl (s.offer (j : Int)) cr 9 (j + 1) (seg m (j + 1 - m)) := by
              have := F.out.offer (j : Int)
              rw [show seg m (j + 1 - m) = seg m (j - m) ++ [(j : Int)] from by rw [show j + 1 - m = (j - m) + 1 from by omega, ← seg_snoc, show m + (j - m) = j from by omega]]
              exact this
            have hok1 : Hid (s.offer (j : Int)).Ok := F1.ok hcr1.1 hcr1.2 (by rw [seg_length]; omega)
            have F2 := F1.send (by omega)
            have hok2 : Hid (s.offer (j : Int)).send.Ok := F2.ok hcr1.1 hcr1.2 (by rw [seg_length]; omega)
            have F3 := F2.deliver (by omega)
            have hok3 : Hid (s.offer (j : Int)).send.deliver.Ok := F3.2.ok hcr1.1 hcr1.2 (by rw [seg_length]; omega)
            replace F3 : Hid (Fl (s.offer (j : Int)).send.deliver cr 9 (j + 2) (seg m (j + 1 - m))) := F3.2
            clear F1 F2
            go_upto_block 4 with (fail)
            go_cut [9] (fun nv wc => ∃ (m : Nat) (s : Ch Int), nv = .int .i64 m ∧ m ≤ j + 1 ∧ Hid (Fl s cr 9 (j + 2) (seg m (j + 1 - m))) ∧ Hid (Hs w wc [ChanI p s, Old w]))
            case first =>
              obtain ⟨r3, hr3⟩ : ∃ r3 : Int, (j : Int) % 3 = r3 := ⟨_, rfl⟩
              rcases Nat.lt_or_ge j n' with hl | hl
              · have hl1 : (j : Int) < (n' : Int) := by omega
                obtain ⟨g, off, rfl⟩ := hr'.out.some_ (by have := hn'.out; omega)
                obtain ⟨⟨b, d, e', q'⟩, hs⟩ : ∃ s, late[j]? = some s := ⟨_, List.getElem?_eq_getElem (by have := hn'.out; omega)⟩
                have hrd := hr'.out.old H.out.at1
                have s2 : wr.cell? ⟨g, off + j * 4 + 2, none⟩ = some (.int .u64 e') := hrd.cell hs 2 rfl
                have s3 : wr.cell? ⟨g, off + j * 4 + 3, none⟩ = some (.int .u64 q') := hrd.cell hs 3 rfl
                clear hrd hs
                go_wp2_with fail
                have hee : Hid (∀ X : Int, X % 9 ≠ 9) := by
                  show ∀ _, _
                  intro X
                  omega
                go_still_tail 15, mixed
                still_call (still_same (place9 _ 9 _ (by omega) (by omega)))
                repeat still_step
                refine wpStill_nil ?_
                change wpList _ _ _ _ _ wr.drew
                clear s2 s3
                have HD := H.out.drew
                generalize wr.drew = wd at *
                have harr := fun X => Lib.hid (F.out.arrive (e := X % 9) (q := q') (-1) (hee.out X))
                clear H
                go_wp2_with fail
                refine (chan_arrives22 p s _ q' (-1) _ _ _ HD hok.out).mono ?_
                rw [(harr _).out.1, (harr _).out.2]
                rintro e w3 ⟨rfl, HX⟩
                clear HD harr hee
                go_wp2_with fail
                refine (chan_offer17 p s j _ _ _ HX hok.out).mono ?_
                rintro e w4 ⟨rfl, H1⟩
                go_wp2_with fail
                refine (chan_sends18 p _ _ _ _ H1 hok1.out).mono ?_
                rintro e w5 ⟨rfl, H2⟩
                go_wp2_with fail
                refine (chan_deliver19 p _ _ _ _ H2 hok2.out).mono ?_
                rintro e w6 ⟨rfl, H3⟩
                clear H1 H2
                rcases (show r3 = 0 ∨ r3 ≠ 0 by omega) with h3 | h3
                · have hq3 : ((r3 != 0) = false) := by rw [h3]; rfl
                  cases hw : (s.offer (j : Int)).send.deliver.wait with
                  | nil =>
                    have ht := Lib.hid (F3.out.take_nil hw)
                    replace hw := Lib.hid hw
                    go_wp2_with fail
                    refine (chan_take20 p _ _ _ _ H3 hok3.out).mono ?_
                    rw [hw.out, ht.out]
                    rintro e w7 ⟨rfl, H4⟩
                    replace H4 := Lib.hid H4
                    simp only [List.headD_nil, List.isEmpty_nil, Bool.not_true]
                    go_wp2_with fail
                    go_meet
                    case rel => exact ⟨m, _, rfl, by omega, F3, H4⟩
                  | cons x r =>
                    obtain ⟨ys, hx, F4⟩ := F3.out.take_cons hw
                    have hmj1 : m < j + 1 := by
                      apply Decidable.byContradiction
                      intro h
                      rw [show j + 1 - m = 0 from by omega] at hx
                      cases hx
                    rw [show j + 1 - m = (j + 1 - (m + 1)) + 1 from by omega] at hx
                    injection hx with hx1 hx2
                    subst hx1
                    subst hx2
                    replace F4 := Lib.hid F4
                    replace hw := Lib.hid hw
                    go_wp2_with fail
                    refine (chan_take20 p _ _ _ _ H3 hok3.out).mono ?_
                    rw [hw.out]
                    rintro e w7 ⟨rfl, H4⟩
                    replace H4 := Lib.hid H4
                    simp only [List.headD_cons, List.isEmpty_cons, Bool.not_false]
                    go_wp2_with fail
                    go_meet
                    case rel => exact ⟨m + 1, _, by simp, by omega, F4, H4⟩
                · have hq3 : ((r3 != 0) = true) := by rw [bne_iff_ne]; exact h3
                  replace H3 := Lib.hid H3
                  go_wp2_with fail
                  go_meet
                  case rel => exact ⟨m, _, rfl, by omega, F3, H3⟩
              · have hl1 : (n' : Int) ≤ (j : Int) := by omega
                have HX := H.out
                go_wp2_with fail
                refine (chan_offer17 p s j _ _ _ HX hok.out).mono ?_
                rintro e w4 ⟨rfl, H1⟩
                go_wp2_with fail
                refine (chan_sends18 p _ _ _ _ H1 hok1.out).mono ?_
                rintro e w5 ⟨rfl, H2⟩
                go_wp2_with fail
                refine (chan_deliver19 p _ _ _ _ H2 hok2.out).mono ?_
                rintro e w6 ⟨rfl, H3⟩
                clear H1 H2
                rcases (show r3 = 0 ∨ r3 ≠ 0 by omega) with h3 | h3
                · have hq3 : ((r3 != 0) = false) := by rw [h3]; rfl
                  cases hw : (s.offer (j : Int)).send.deliver.wait with
                  | nil =>
                    have ht := Lib.hid (F3.out.take_nil hw)
                    replace hw := Lib.hid hw
                    go_wp2_with fail
                    refine (chan_take20 p _ _ _ _ H3 hok3.out).mono ?_
                    rw [hw.out, ht.out]
                    rintro e w7 ⟨rfl, H4⟩
                    replace H4 := Lib.hid H4
                    simp only [List.headD_nil, List.isEmpty_nil, Bool.not_true]
                    go_wp2_with fail
                    go_meet
                    case rel => exact ⟨m, _, rfl, by omega, F3, H4⟩
                  | cons x r =>
                    obtain ⟨ys, hx, F4⟩ := F3.out.take_cons hw
                    have hmj1 : m < j + 1 := by
                      apply Decidable.byContradiction
                      intro h
                      rw [show j + 1 - m = 0 from by omega] at hx
                      cases hx
                    rw [show j + 1 - m = (j + 1 - (m + 1)) + 1 from by omega] at hx
                    injection hx with hx1 hx2
                    subst hx1
                    subst hx2
                    replace F4 := Lib.hid F4
                    replace hw := Lib.hid hw
                    go_wp2_with fail
                    refine (chan_take20 p _ _ _ _ H3 hok3.out).mono ?_
                    rw [hw.out]
                    rintro e w7 ⟨rfl, H4⟩
                    replace H4 := Lib.hid H4
                    simp only [List.headD_cons, List.isEmpty_cons, Bool.not_false]
                    go_wp2_with fail
                    go_meet
                    case rel => exact ⟨m + 1, _, by simp, by omega, F4, H4⟩
                · have hq3 : ((r3 != 0) = true) := by rw [bne_iff_ne]; exact h3
                  replace H3 := Lib.hid H3
                  go_wp2_with fail
                  go_meet
                  case rel => exact ⟨m, _, rfl, by omega, F3, H3⟩
            case rest =>
              clear hok F H hok1 hok2 hok3 F3 hmj
              obtain ⟨m, s, rfl, hmj, F, H⟩ := hcut
              go_wp2_with fail
              go_roundg (40 - (j + 1))
              case measure => have := hk.out; omega
              case rel => exact ⟨j + 1, m, s, by omega, by simp, rfl, by omega, F, H⟩
          · have hj1 : (40 : Int) ≤ (j : Int) := by omega
            obtain rfl : j = 40 := by omega
            clear hok
            go_wp2_with fail
            go_loopg [9, 14] 200 (fun k gv i wr => ∃ (j got : Nat) (s : Ch Int), k + j = 200 ∧ i = .int .i64 j ∧ gv = .int .i64 got ∧ got ≤ 40 ∧ (j ≤ got ∨ got = 40) ∧ Hid (Fl s cr 9 (400 + j) (seg got (40 - got))) ∧ Hid (Hs w wr [ChanI p s, Old w]))
            case atStart => exact ⟨0, m, s, rfl, rfl, rfl, by omega, by omega, F.out.more (by omega), H⟩
            case round =>
              clear H hk F
              obtain ⟨j, got, s, hk, rfl, rfl, hgotb, hgot, F, H⟩ := hrel
              have hjb : j ≤ 200 := by omega
              replace hk := Lib.hid hk
              rcases Nat.lt_or_ge j 200 with hj | hj
              · have hj1 : (j : Int) < 200 := by omega
                have hok : Hid s.Ok := F.out.ok hcr1.1 hcr1.2 (by rw [seg_length]; omega)
                have F1 := F.out.send (by omega)
                have hok1 : Hid s.send.Ok := F1.ok hcr1.1 hcr1.2 (by rw [seg_length]; omega)
                have F2 := F1.deliver (by omega)
                have hok2 : Hid s.send.deliver.Ok := F2.2.ok hcr1.1 hcr1.2 (by rw [seg_length]; omega)
                rcases Nat.lt_or_ge got 40 with hg | hg
                · obtain ⟨ws, hw⟩ := F.out.moved hcr1.1 (by omega) (x := (got : Int)) (r := seg (got + 1) (40 - got - 1)) (by rw [show 40 - got = (40 - got - 1) + 1 from by omega]; rfl)
                  obtain ⟨ys, hy, F3⟩ := F2.2.take_cons hw
                  have hys : ys = seg (got + 1) (40 - (got + 1)) := by
                    rw [show 40 - got = (40 - (got + 1)) + 1 from by omega] at hy
                    injection hy with _ h
                    exact h.symm
                  subst hys
                  have hcd := Lib.hid F2.1
                  replace F3 := Lib.hid F3
                  replace hw := Lib.hid hw
                  have hgot1 : Hid (j ≤ got) := by show _ ≤ _; omega
                  clear F1 F2 hgot hy
                  go_wp2_with fail
                  refine (chan_sends18 p s _ _ _ H.out hok.out).mono ?_
                  rintro e w4 ⟨rfl, H1⟩
                  go_wp2_with fail
                  refine (chan_deliver19 p _ _ _ _ H1 hok1.out).mono ?_
                  rintro e w5 ⟨rfl, H2⟩
                  rcases hcd.out with h | h
                  all_goals
                    rw [h]
                    clear h
                    go_wp2_with fail
                    refine (chan_take20 p _ _ _ _ H2 hok2.out).mono ?_
                    rw [hw.out]
                    rintro e w6 ⟨rfl, H3⟩
                    simp only [List.headD_cons, List.isEmpty_cons, Bool.not_false]
                    replace H3 := Lib.hid H3
                    go_wp2_with fail
                    go_roundg (200 - (j + 1))
                    case measure => have := hk.out; omega
                    case rel => exact ⟨j + 1, got + 1, _, by omega, by simp, by simp, by omega, by have := hgot1.out; omega, F3.out.more (by omega), H3⟩
                · have hq0 : 40 - got = 0 := by omega
                  rw [hq0] at F2
                  have hw : Hid (s.send.deliver.wait = []) := F2.2.idle
                  have F3 : Hid (Fl s.send.deliver.take cr 9 (400 + j + 1) (seg got 0)) := by
                    show Fl _ _ _ _ _
                    rw [F2.2.take_nil hw.out]
                    exact F2.2
                  have hcd := Lib.hid F2.1
                  clear F1 F2
                  go_wp2_with fail
                  refine (chan_sends18 p s _ _ _ H.out hok.out).mono ?_
                  rintro e w4 ⟨rfl, H1⟩
                  go_wp2_with fail
                  refine (chan_deliver19 p _ _ _ _ H1 hok1.out).mono ?_
                  rintro e w5 ⟨rfl, H2⟩
                  rcases hcd.out with h | h
                  all_goals
                    rw [h]
                    clear h
                    go_wp2_with fail
                    refine (chan_take20 p _ _ _ _ H2 hok2.out).mono ?_
                    rw [hw.out]
                    rintro e w6 ⟨rfl, H3⟩
                    simp only [List.headD_nil, List.isEmpty_nil, Bool.not_true]
                    replace H3 := Lib.hid H3
                    go_wp2_with fail
                    go_roundg (200 - (j + 1))
                    case measure => have := hk.out; omega
                    case rel => exact ⟨j + 1, got, _, by omega, by simp, rfl, by omega, by omega, by rw [hq0]; exact F3.out.more (by omega), H3⟩
              · have hj1 : 200 ≤ (j : Int) := by omega
                have hgq : got = 40 := by omega
                subst hgq
                have hep := Lib.hid F.out.hep
                clear hgot
                go_wp2_with fail
                refine (chan_epoch23 p s _ _ _ H.out).mono ?_
                rw [hep.out]
                rintro e w4 ⟨rfl, rfl⟩
                go_wp2_with fail
                go_ret
                exact ⟨rfl, below_of H.out.drop⟩
end Go.Proofs.Ytoiokmfdmpifiaa

import Derived.Test.YtlaicngliopjoaaKn
import Derived.Test.YtlaicngliopjoaaEq
import Derived.Test.YtlaicngliopjoaaProg
import Derived.Test.YtlaicngliopjoaaLs
import Derived.Outline
import Derived.StillTailTactics
import Derived.Deep.DeepCutAuto
import Derived.Deep.CutBlock
import Derived.Deep.LoopGhost
import Derived.Deep.QuietTactic
import Derived.BigQuiet
import Derived.Deep.RegionHeld3
import Derived.Deep.RegionLaw
set_option linter.unusedVariables false
set_option linter.unusedSimpArgs false
namespace Go.Proofs.Ytlaicngliopjoaa
open Go.RowKit
def EStep : Enc (Int × Int × Int) := (Enc.num .i64).pair ((Enc.num .i64).pair (Enc.num .i64))
theorem below_of {w w' : World} {R : List HP} (H : Hs w w' (Old w :: R)) : Below w.heap.size w w' := H.under_old
set_option maxRecDepth 100000 in
set_option maxHeartbeats 1000000 in
theorem netlink_walk (ep : Int) (A : Option Addr) (n c : Nat) (steps : List (Int × Int × Int)) (w : World) (hep : (Lit.int .u64 ep).wf = true) (hr : RdL EStep w (.slice A n c) steps) (hok : ∀ x ∈ steps, (Lit.int .i64 x.1).wf = true ∧ (Lit.int .i64 x.2.1).wf = true ∧ (Lit.int .i64 x.2.2).wf = true) :
    Calls Try.prog 5 #[.int .u64 ep, .slice A n c] w fun e w' => e = .returned (.bool true) ∧ Below w.heap.size w w' := by
  clear hok hep
  obtain ⟨hn, hnc, hc63⟩ := hr.caps
  replace hn := Lib.hid hn
  replace hr := Lib.hid hr
  by_cases hlong : 500 < (n : Int)
  · go_enter Try.func5, Try.ntmps5
    go_wp2_with fail
    refine (known6 w w _ (Hs.start w)).mono ?_
    rintro e w1 ⟨rfl, H⟩
    go_wp2_with fail
    go_ret
    exact ⟨rfl, below_of H⟩
  · replace hlong : (n : Int) ≤ 500 := by omega
    go_enter Try.func5, Try.ntmps5
    go_wp2_with fail
    refine (known6 w w _ (Hs.start w)).mono ?_
    rintro e w1 ⟨rfl, H⟩
    go_wp2_with fail
    refine (link_new12 ep _ _ _ H).mono ?_
    rintro e w2 ⟨p, rfl, H⟩
    replace H := Lib.hid H
    go_wp2_with fail
    go_loopg [0, 6, 7] n (fun k epv q i wr => ∃ (j : Nat) (e : Int) (xs : List Int), epv = .int .u64 e ∧ k + j = n ∧ i = .int .i64 j ∧ xs.length ≤ j ∧ Hid (Hs w wr [Link p e xs, Ls (Enc.num .i64) 3 q xs, Old w]))
    case atStart => exact ⟨0, ep, [], rfl, rfl, rfl, by simp, (H.out.ls_nil _ _).at1⟩
    case round =>
      clear H
      obtain ⟨j, e, xs, rfl, hk, rfl, hxl, H⟩ := hrel
      obtain ⟨A1, c1, rfl⟩ := H.out.at1.ls_form
      have hjn : j ≤ n := by omega
      replace hk := Lib.hid hk
      rcases Nat.lt_or_ge j n with hj | hj
      · obtain ⟨g, off, rfl⟩ := hr.out.some_ (by have := hn.out; omega)
        obtain ⟨⟨a, b, d⟩, hs⟩ : ∃ s, steps[j]? = some s := ⟨_, List.getElem?_eq_getElem (by have := hn.out; omega)⟩
        have hrd := hr.out.old H.out.at2
        have s0 : wr.cell? ⟨g, off + j * 3, none⟩ = some (.int .i64 a) := hrd.cell hs 0 rfl
        have s1 : wr.cell? ⟨g, off + j * 3 + 1, none⟩ = some (.int .i64 b) := hrd.cell hs 1 rfl
        have s2 : wr.cell? ⟨g, off + j * 3 + 2, none⟩ = some (.int .i64 d) := hrd.cell hs 2 rfl
        clear hrd hs
        have H1 : Hid (Hs w (wr.alloc (.cells #[.int .i64 a, .int .i64 b, .int .i64 d] 28)) [Blk wr.heap.size (.cells #[.int .i64 a, .int .i64 b, .int .i64 d] 28), Link p e xs, Ls (Enc.num .i64) 3 (.slice A1 xs.length c1) xs, Old w]) := H.out.alloc _
        clear H
        generalize hm : IntKind.u64.wrap (IntKind.u64.wrap (e + IntKind.u64.wrap (bits BinOp.and IntKind.i64 d 3)) - 1) = m
        go_upto_block 2 with (fail)
        replace hm := Lib.hid hm
        clear s0 s1 s2
        obtain ⟨_, hcap1, hcap2⟩ := H1.out.at2.ls_rd.caps
        go_cut [0, 6] (fun epv q wc => ∃ (e : Int) (xs : List Int), epv = .int .u64 e ∧ xs.length ≤ j + 1 ∧ Hid (Hs w wc [Link p e xs, Ls (Enc.num .i64) 3 q xs, Old w]))
        case first =>
          rcases (show (a = 0 ∨ a = 1 ∨ a = 2) ∨ (a = 3 ∨ a = 4) ∨ a = 5 ∨ (a ≠ 0 ∧ a ≠ 1 ∧ a ≠ 2 ∧ a ≠ 3 ∧ a ≠ 4 ∧ a ≠ 5) by omega) with ha | ha | rfl | ⟨n0, n1, n2, n3, n4, n5⟩
          · by_cases hme : m = e
            · subst hme
              rcases ha with rfl | rfl | rfl
              all_goals
                go_wp2_with fail
                refine (link_send13 p m m b xs _ _ _ H1.out.at1 (by omega)).mono ?_
                rintro e w1 ⟨rfl, H2⟩
                have hb1 : w1.cell? ⟨wr.heap.size, 1, none⟩ = some (.int .i64 b) := H2.at1.cellOf 1 rfl
                go_wp2_with (at_builtin; refine wpList_append1L (E := Enc.num .i64) rfl (.tmp 51) (.tmp 54) 26 rfl 3 _ 1 8 Try.underlying26 info30 rfl (by decide) (by decide) rfl rfl rfl H2.at2 b (by omega) ?_)
                intro A2 c2 w2 H3
                go_wp2_with fail
                go_meet
                case rel => exact ⟨m, xs ++ [b], rfl, by simp; omega, H3.at2.drop.at1⟩
            · have b1 : (m == e) = false := by rw [beq_eq_false_iff_ne]; exact hme
              have b2 : (m != e) = true := by rw [bne_iff_ne]; exact hme
              rcases ha with rfl | rfl | rfl
              all_goals
                go_wp2_with fail
                refine (link_send13 p e m b xs _ _ _ H1.out.at1 (by omega)).mono ?_
                rintro e1 w1 ⟨rfl, H2⟩
                go_wp2_with fail
                go_meet
                case rel => exact ⟨e, xs, rfl, by omega, by rw [if_neg hme] at H2; exact H2.at1.drop⟩
          · cases xs with
            | nil =>
              rcases ha with rfl | rfl
              all_goals
                go_wp2_with fail
                refine (link_deliver14 p e [] _ _ _ H1.out.at1 (by simp)).mono ?_
                rintro e1 w1 ⟨rfl, H2⟩
                go_wp2_with fail
                go_roundg (n - (j + 1))
                case measure => have := hk.out; omega
                case rel => exact ⟨j + 1, e, [], rfl, by have := hk.out; omega, by go_num, by simp, H2.at1.drop⟩
            | cons x xs =>
              simp only [List.length_cons] at hxl
              obtain ⟨g1, off1, rfl⟩ := H1.out.at2.ls_rd.some_ (by simp)
              obtain ⟨A2, hA2, hcut2⟩ := cut_tail Try.prog 26 3 1 Try.underlying26 (by kernel_rfl) (some ⟨g1, off1, none⟩) xs.length c1
              simp only [List.length_cons] at hcap1 hcap2 ⊢
              rcases ha with rfl | rfl
              all_goals
                go_wp2_with fail
                refine (link_deliver14 p e (x :: xs) _ _ _ H1.out.at1 (by simp; omega)).mono ?_
                rintro e1 w1 ⟨rfl, H2⟩
                have hx : w1.cell? ⟨g1, off1, none⟩ = some (.int .i64 x) := H2.at2.ls_rd.cell (i := 0) rfl 0 rfl
                go_wp2_with fail
                go_meet
                case rel => exact ⟨e, xs, rfl, by omega, (H2.at1.drop.at1.ls_tail rfl rfl hA2).at1⟩
          · go_wp2_with fail
            refine (link_kill15 p e m xs _ _ _ H1.out.at1).mono ?_
            rintro e1 w1 ⟨rfl, H2⟩
            rcases Int.lt_or_le e m with hem | hem
            · have hmx : max e m = m := by omega
              rw [hmx] at H2
              clear hmx
              go_wp2_with fail
              go_meet
              case rel => exact ⟨m, [], rfl, by simp, (H2.at1.drop.at1.drop.ls_nil _ _).at1⟩
            · have hmx : max e m = e := by omega
              rw [hmx] at H2
              clear hmx
              go_wp2_with fail
              go_meet
              case rel => exact ⟨e, [], rfl, by simp, (H2.at1.drop.at1.drop.ls_nil _ _).at1⟩
          · have c0 : (a == 0) = false := by rw [beq_eq_false_iff_ne]; exact n0
            have c1 : (a == 1) = false := by rw [beq_eq_false_iff_ne]; exact n1
            have c2 : (a == 2) = false := by rw [beq_eq_false_iff_ne]; exact n2
            have c3 : (a == 3) = false := by rw [beq_eq_false_iff_ne]; exact n3
            have c4 : (a == 4) = false := by rw [beq_eq_false_iff_ne]; exact n4
            have c5 : (a == 5) = false := by rw [beq_eq_false_iff_ne]; exact n5
            go_wp2_with fail
            go_meet
            case rel => exact ⟨e, xs, rfl, by omega, H1.out.drop⟩
        case rest =>
          clear H1
          obtain ⟨e, xs, rfl, hxl, H⟩ := hcut
          obtain ⟨A1, c1, rfl⟩ := H.out.at1.ls_form
          go_wp2_with fail
          refine (link_epoch16 p e xs _ _ _ H.out).mono ?_
          rintro e1 w1 ⟨rfl, rfl⟩
          go_wp2_with fail
          refine (link_len17 p e xs _ _ _ H.out).mono ?_
          rintro e1 w1 ⟨rfl, rfl⟩
          go_wp2_with fail
          refine (link_all19 p e xs _ _ _ H.out (by omega)).mono ?_
          rintro e1 w1 ⟨A2, c2, rfl, H2⟩
          go_wp2_with fail
          refine (eqlist18 _ _ xs xs _ H2.ls_rd H2.at2.ls_rd).mono ?_
          rintro e1 w1 ⟨rfl, q, rfl⟩
          go_wp2_with fail
          go_roundg (n - (j + 1))
          case measure => have := hk.out; omega
          case rel => exact ⟨j + 1, e, xs, rfl, by have := hk.out; omega, by go_num, hxl, H2.drop.drewN _⟩
      · go_wp2_with fail
        go_ret
        exact ⟨rfl, below_of H.out.at2⟩
end Go.Proofs.Ytlaicngliopjoaa

import Derived.Test.YtbifajiigpalhaaEa
import Derived.IntWalk
import Derived.Test.YtbifajiigpalhaaProg
import Derived.Test.YtbifajiigpalhaaLs
import Derived.Outline
import Derived.StillTailTactics
import Derived.Deep.DeepCutAuto
import Derived.Deep.CutBlock
import Derived.Deep.LoopGhost
import Derived.Deep.QuietTactic
import Derived.BigQuiet
import Derived.Deep.RegionHeld3
import Derived.Deep.RegionLaw
set_option linter.unusedVariables false
set_option linter.unusedSimpArgs false
namespace Go.Proofs.Ytbifajiigpalhaa
open Go.RowKit
def IsI (v : Value) : Prop := ∃ r : Int, v = .int .i64 r
def IsB (v : Value) : Prop := ∃ r : Bool, v = .bool r
def IsII (v : Value) : Prop := ∃ r s : Int, v = .tuple #[.int .i64 r, .int .i64 s]
def SomeV (P : Value → Prop) (w : World) (e : Ending) (w' : World) : Prop := ∃ v, P v ∧ e = .returned v ∧ Below w.heap.size w w'
def erv (r : ERow) : Value := .agg #[.int .i64 r.1, .int .i64 r.2.1, .slice r.2.2.1 r.2.2.2.1 r.2.2.2.2]
theorem Kept.hs {W w w' w0 : World} {R : List HP} (h : Kept W w) (H : Hs w0 w' (Old w :: R)) : Kept W w' := fun k hk => (H.old k (by have := h.size; omega)).trans (h k hk)
theorem ExpR.inv {W : World} {op n : Int} {s : Slc} (h : ExpR W (op, n, s)) : ∃ rows, RdL EEx W (.slice s.1 s.2.1 s.2.2) rows ∧ ∀ r ∈ rows, ExpR W r := by
  cases h with
  | mk _ _ _ rows hr hall => exact ⟨rows, hr, hall⟩
def ar (k : Int) : Int := if 1 ≤ k ∧ k ≤ 4 then 0 else if k = 14 then 3 else if 5 ≤ k ∧ k ≤ 13 then 2 else -1
set_option maxRecDepth 100000 in
theorem arity44 (k : Int) (w : World) : Calls Try.prog 44 #[.int .i64 k] w fun e w' => e = .returned (.int .i64 (ar k)) ∧ w' = w := by
  rcases (show k < 1 ∨ (1 ≤ k ∧ k ≤ 4) ∨ k = 14 ∨ (4 < k ∧ k < 14) ∨ 14 < k by omega) with h | ⟨h, h'⟩ | h | ⟨h, h'⟩ | h
  · have e : Hid (ar k = -1) := by show _ = _; unfold ar; rw [if_neg (by omega), if_neg (by omega), if_neg (by omega)]
    have h1 : decide (1 ≤ k) = false := by rw [decide_eq_false_iff_not]; omega
    have h2 : (k == 14) = false := by rw [beq_eq_false_iff_ne]; omega
    have h3 : decide (5 ≤ k) = false := by rw [decide_eq_false_iff_not]; omega
    go_enter Try.func44, Try.ntmps44
    go_wp2_with fail
    go_ret
    rw [e.out]
    exact ⟨rfl, rfl⟩
  · have e : Hid (ar k = 0) := by show _ = _; unfold ar; rw [if_pos ⟨h, h'⟩]
    go_enter Try.func44, Try.ntmps44
    go_wp2_with fail
    go_ret
    rw [e.out]
    exact ⟨rfl, rfl⟩
  · subst h
    go_enter Try.func44, Try.ntmps44
    go_wp2_with fail
    go_ret
    exact ⟨rfl, rfl⟩
  · have e : Hid (ar k = 2) := by show _ = _; unfold ar; rw [if_neg (by omega), if_neg (by omega), if_pos ⟨by omega, by omega⟩]
    have h0 : 1 ≤ k := by omega
    have h1 : decide (k ≤ 4) = false := by rw [decide_eq_false_iff_not]; omega
    have h2 : (k == 14) = false := by rw [beq_eq_false_iff_ne]; omega
    have h3 : 5 ≤ k := by omega
    have h4 : k ≤ 13 := by omega
    go_enter Try.func44, Try.ntmps44
    go_wp2_with fail
    go_ret
    rw [e.out]
    exact ⟨rfl, rfl⟩
  · have e : Hid (ar k = -1) := by show _ = _; unfold ar; rw [if_neg (by omega), if_neg (by omega), if_neg (by omega)]
    have h0 : 1 ≤ k := by omega
    have h1 : decide (k ≤ 4) = false := by rw [decide_eq_false_iff_not]; omega
    have h2 : (k == 14) = false := by rw [beq_eq_false_iff_ne]; omega
    have h3 : 5 ≤ k := by omega
    have h4 : decide (k ≤ 13) = false := by rw [decide_eq_false_iff_not]; omega
    go_enter Try.func44, Try.ntmps44
    go_wp2_with fail
    go_ret
    rw [e.out]
    exact ⟨rfl, rfl⟩
set_option maxRecDepth 100000 in
theorem zero41 (r : ERow) (w : World) : Calls Try.prog 41 #[erv r] w (SomeV IsB w) := by
  obtain ⟨op, n, ⟨a, l, c⟩⟩ := r
  have H := (Hs.start w).alloc (.cells #[.int .i64 op, .int .i64 n, .slice a l c] 50)
  replace H := Lib.hid H
  unfold erv
  dsimp only
  cases h1 : op == 0 with
  | false =>
    go_enter Try.func41, Try.ntmps41
    go_wp2_with fail
    go_ret
    exact ⟨_, ⟨_, rfl⟩, rfl, H.out.tail.under_old⟩
  | true =>
    cases h2 : n == 0 with
    | false =>
      go_enter Try.func41, Try.ntmps41
      go_wp2_with fail
      go_ret
      exact ⟨_, ⟨_, rfl⟩, rfl, H.out.tail.under_old⟩
    | true =>
      go_enter Try.func41, Try.ntmps41
      go_wp2_with fail
      go_ret
      exact ⟨_, ⟨_, rfl⟩, rfl, H.out.tail.under_old⟩
set_option maxRecDepth 100000 in
set_option maxHeartbeats 800000 in
theorem light27 {W : World} {row : ERow} (he : ExpR W row) : ∀ (most deep : Int) (w : World), Kept W w → Calls Try.prog 27 #[erv row, .int .i64 most, .int .i64 deep] w (SomeV IsI w) := by
  induction he with
  | mk op n s rows hr hall ih =>
    intro most deep w hk
    obtain ⟨a, l, c⟩ := s
    have H := Lib.hid ((Hs.start w).alloc (.cells #[.int .i64 op, .int .i64 n, .slice a l c] 50))
    unfold erv
    dsimp only at hr ⊢
    obtain ⟨rfl, hlc⟩ := hr.caps
    obtain ⟨L, hL⟩ : ∃ L, rows.length = L := ⟨_, rfl⟩
    rw [hL] at H hr hlc ⊢
    replace hL := Lib.hid hL
    replace hr := Lib.hid hr
    replace ih := Lib.hid ih
    replace hk := Lib.hid hk
    clear hall
    rcases (show most ≤ 0 ∨ (0 < most ∧ deep ≤ 0) ∨ (0 < most ∧ 0 < deep) by omega) with h | ⟨h, h'⟩ | ⟨h, h'⟩
    · go_enter Try.func27, Try.ntmps27
      go_wp2_with fail
      go_ret
      exact ⟨_, ⟨_, rfl⟩, rfl, H.out.tail.under_old⟩
    · have h1 : decide (most ≤ 0) = false := by rw [decide_eq_false_iff_not]; omega
      go_enter Try.func27, Try.ntmps27
      go_wp2_with fail
      go_ret
      exact ⟨_, ⟨_, rfl⟩, rfl, H.out.tail.under_old⟩
    · have h1 : decide (most ≤ 0) = false := by rw [decide_eq_false_iff_not]; omega
      have h2 : decide (deep ≤ 0) = false := by rw [decide_eq_false_iff_not]; omega
      go_enter Try.func27, Try.ntmps27
      go_wp2_with fail
      generalize World.alloc w _ = w1 at H ⊢
      generalize w.heap.size = b at H ⊢
      go_loopg [7, 8] L (fun k nv iv wr => ∃ (j : Nat) (x : Int), k + j = L ∧ nv = .int .i64 x ∧ iv = .int .i64 j ∧ Hid (Hs w wr [Blk b (.cells #[.int .i64 op, .int .i64 n, .slice a L c] 50), Old w]))
      case atStart => exact ⟨0, 1, rfl, rfl, rfl, H⟩
      case round =>
        clear H
        obtain ⟨j, x, hg, rfl, rfl, H⟩ := hrel
        have hjL : j ≤ L := by omega
        replace hg := Lib.hid hg
        have b2 : wr.cell? ⟨b, 2, none⟩ = some (.slice a L c) := H.out.cellOf 2 rfl
        rcases Nat.lt_or_ge j L with hlt | hlt
        · have hj0 : (0 : Int) ≤ (j : Int) := by omega
          have hj1 : (j : Int) < (L : Int) := by omega
          rcases Int.lt_or_le most x with hx | hx
          · have hx1 : decide (x ≤ most) = false := by rw [decide_eq_false_iff_not]; omega
            clear hx
            go_wp2_with fail
            go_ret
            exact ⟨_, ⟨_, rfl⟩, rfl, H.out.tail.under_old⟩
          · have hw6 : IntKind.i64.wrap ((j : Int) + 1) = ((j + 1 : Nat) : Int) := by rw [IntWalk.i64_in _ (by omega)]; omega
            have hk2 := hk.out.hs H.out.tail
            have hr2 := hr.out.step hk2
            obtain ⟨g, off, rfl⟩ := hr2.some_ (by have := hL.out; omega)
            obtain ⟨⟨o1, n1, ⟨a1, l1, c1⟩⟩, hrow⟩ : ∃ r, rows[j]? = some r := ⟨_, List.getElem?_eq_getElem (by have := hL.out; omega)⟩
            have e0 : wr.cell? ⟨g, off + j * 3, none⟩ = some (.int .i64 o1) := hr2.cell hrow 0 rfl
            have e1 : wr.cell? ⟨g, off + j * 3 + 1, none⟩ = some (.int .i64 n1) := hr2.cell hrow 1 rfl
            have e2 : wr.cell? ⟨g, off + j * 3 + 2, none⟩ = some (.slice a1 l1 c1) := hr2.cell hrow 2 rfl
            have T := Lib.hid (fun m d => ih.out _ (List.mem_of_getElem? hrow) m d wr hk2)
            unfold erv at T
            dsimp only at T
            clear hr2 hrow hk2
            go_wp2_with fail
            refine (T.out _ _).mono ?_
            rintro e w2 ⟨v, ⟨r, rfl⟩, rfl, hb⟩
            have H2 := Lib.hid (H.out.below hb)
            clear b2 e0 e1 e2 T hb H
            go_wp2_with fail
            go_roundg (L - (j + 1))
            case measure => have := hg.out; omega
            case rel => exact ⟨j + 1, _, by have := hg.out; omega, rfl, by go_num, H2⟩
        · have hj1 : decide ((j : Int) < (L : Int)) = false := by rw [decide_eq_false_iff_not]; omega
          have hj2 : decide (j < L) = false := by rw [decide_eq_false_iff_not]; omega
          clear hlt
          go_wp2_with fail
          go_ret
          exact ⟨_, ⟨_, rfl⟩, rfl, H.out.tail.under_old⟩
set_option maxRecDepth 100000 in
set_option maxHeartbeats 1600000 in
theorem formed42 {W : World} {row : ERow} (he : ExpR W row) : ∀ (w : World), Kept W w → Calls Try.prog 42 #[erv row] w (SomeV IsB w) := by
  induction he with
  | mk op n s rows hr hall ih =>
    intro w hk
    obtain ⟨a, l, c⟩ := s
    have H := Lib.hid ((Hs.start w).alloc (.cells #[.int .i64 op, .int .i64 n, .slice a l c] 50))
    unfold erv
    dsimp only at hr ⊢
    obtain ⟨rfl, hlc⟩ := hr.caps
    obtain ⟨L, hL⟩ : ∃ L, rows.length = L := ⟨_, rfl⟩
    rw [hL] at H hr hlc ⊢
    replace hL := Lib.hid hL
    replace hr := Lib.hid hr
    replace ih := Lib.hid ih
    replace hk := Lib.hid hk
    clear hall
    go_enter Try.func42, Try.ntmps42
    go_upto_region 1 with (fail)
    generalize World.alloc w _ = w1 at H ⊢
    generalize w.heap.size = b at H ⊢
    have b0 : w1.cell? ⟨b, 0, none⟩ = some (.int .i64 op) := H.out.cellOf 0 rfl
    have b1 : w1.cell? ⟨b, 1, none⟩ = some (.int .i64 n) := H.out.cellOf 1 rfl
    have b2 : w1.cell? ⟨b, 2, none⟩ = some (.slice a L c) := H.out.cellOf 2 rfl
    go_cut [26] (fun bv wx => ∃ (x : Bool) (q : Nat), bv = .bool x ∧ wx = w1.drewN q)
    case first =>
      clear H
      obtain ⟨r, hr2⟩ : ∃ r, ar op = r := ⟨_, rfl⟩
      have TA := fun w => arity44 op w
      rw [hr2] at TA
      replace TA := Lib.hid TA
      clear hr2
      cases h1 : decide (r < 0) with
      | true =>
        go_quiet ((go_at_call 44; exact Calls.quiet_of_same (TA.out _)))
        go_wp2_with fail
        go_meet
        case rel => exact ⟨_, _, rfl, rfl⟩
      | false =>
        cases h2 : ((L : Int) != r) with
        | true =>
          go_quiet ((go_at_call 44; exact Calls.quiet_of_same (TA.out _)))
          go_wp2_with fail
          go_meet
          case rel => exact ⟨_, _, rfl, rfl⟩
        | false =>
          cases h3 : (n != 0) with
          | true =>
            go_quiet ((go_at_call 44; exact Calls.quiet_of_same (TA.out _)))
            go_wp2_with fail
            go_meet
            case rel => exact ⟨_, _, rfl, rfl⟩
          | false =>
            go_quiet ((go_at_call 44; exact Calls.quiet_of_same (TA.out _)))
            go_wp2_with fail
            go_meet
            case rel => exact ⟨_, _, rfl, rfl⟩
    case rest =>
      obtain ⟨x, q, rfl, rfl⟩ := hcut
      replace H := Lib.hid (H.out.drewN q)
      clear b0 b1 b2
      generalize World.drewN w1 q = w2 at H ⊢
      cases x with
      | true =>
        go_wp2_with fail
        go_ret
        exact ⟨_, ⟨_, rfl⟩, rfl, H.out.tail.under_old⟩
      | false =>
        go_wp2_with fail
        go_loopg [3] L (fun k iv wr => ∃ (j : Nat), k + j = L ∧ iv = .int .i64 j ∧ Hid (Hs w wr [Blk b (.cells #[.int .i64 op, .int .i64 n, .slice a L c] 50), Old w]))
        case atStart => exact ⟨0, rfl, rfl, H⟩
        case round =>
          clear H
          obtain ⟨j, hg, rfl, H⟩ := hrel
          have hjL : j ≤ L := by omega
          replace hg := Lib.hid hg
          have b2 : wr.cell? ⟨b, 2, none⟩ = some (.slice a L c) := H.out.cellOf 2 rfl
          rcases Nat.lt_or_ge j L with hlt | hlt
          · have hj0 : (0 : Int) ≤ (j : Int) := by omega
            have hj1 : (j : Int) < (L : Int) := by omega
            have hw6 : IntKind.i64.wrap ((j : Int) + 1) = ((j + 1 : Nat) : Int) := by rw [IntWalk.i64_in _ (by omega)]; omega
            have hk2 := hk.out.hs H.out.tail
            have hr2 := hr.out.step hk2
            obtain ⟨g, off, rfl⟩ := hr2.some_ (by have := hL.out; omega)
            obtain ⟨⟨o1, n1, ⟨a1, l1, c1⟩⟩, hrow⟩ : ∃ r, rows[j]? = some r := ⟨_, List.getElem?_eq_getElem (by have := hL.out; omega)⟩
            have e0 : wr.cell? ⟨g, off + j * 3, none⟩ = some (.int .i64 o1) := hr2.cell hrow 0 rfl
            have e1 : wr.cell? ⟨g, off + j * 3 + 1, none⟩ = some (.int .i64 n1) := hr2.cell hrow 1 rfl
            have e2 : wr.cell? ⟨g, off + j * 3 + 2, none⟩ = some (.slice a1 l1 c1) := hr2.cell hrow 2 rfl
            have T := ih.out _ (List.mem_of_getElem? hrow) wr hk2
            unfold erv at T
            dsimp only at T
            replace T := Lib.hid T
            clear hr2 hrow hk2
            go_wp2_with fail
            refine T.out.mono ?_
            rintro e w2 ⟨v, ⟨r, rfl⟩, rfl, hb⟩
            have H2 := Lib.hid (H.out.below hb)
            clear b2 e0 e1 e2 T hb H
            cases r with
            | false =>
              go_wp2_with fail
              go_ret
              exact ⟨_, ⟨_, rfl⟩, rfl, H2.out.tail.under_old⟩
            | true =>
              go_wp2_with fail
              go_roundg (L - (j + 1))
              case measure => have := hg.out; omega
              case rel => exact ⟨j + 1, by have := hg.out; omega, by go_num, H2⟩
          · have hj1 : decide ((j : Int) < (L : Int)) = false := by rw [decide_eq_false_iff_not]; omega
            have hj2 : decide (j < L) = false := by rw [decide_eq_false_iff_not]; omega
            clear hlt
            go_wp2_with fail
            go_ret
            exact ⟨_, ⟨_, rfl⟩, rfl, H.out.tail.under_old⟩
set_option maxRecDepth 100000 in
set_option maxHeartbeats 1600000 in
theorem size43 {W : World} {row : ERow} (he : ExpR W row) : ∀ (w : World), Kept W w → Calls Try.prog 43 #[erv row] w (SomeV IsII w) := by
  induction he with
  | mk op n s rows hr hall ih =>
    intro w hk
    obtain ⟨a, l, c⟩ := s
    have H := Lib.hid ((Hs.start w).alloc (.cells #[.int .i64 op, .int .i64 n, .slice a l c] 50))
    unfold erv
    dsimp only at hr ⊢
    obtain ⟨rfl, hlc⟩ := hr.caps
    obtain ⟨L, hL⟩ : ∃ L, rows.length = L := ⟨_, rfl⟩
    rw [hL] at H hr hlc ⊢
    replace hL := Lib.hid hL
    replace hr := Lib.hid hr
    replace ih := Lib.hid ih
    replace hk := Lib.hid hk
    clear hall
    go_enter Try.func43, Try.ntmps43
    go_wp2_with fail
    generalize World.alloc w _ = w1 at H ⊢
    generalize w.heap.size = b at H ⊢
    go_loopg [4, 5, 6] L (fun k nv dv iv wr => ∃ (j : Nat) (x y : Int), k + j = L ∧ nv = .int .i64 x ∧ dv = .int .i64 y ∧ iv = .int .i64 j ∧ Hid (Hs w wr [Blk b (.cells #[.int .i64 op, .int .i64 n, .slice a L c] 50), Old w]))
    case atStart => exact ⟨0, 1, 0, rfl, rfl, rfl, rfl, H⟩
    case round =>
      clear H
      obtain ⟨j, x, y, hg, rfl, rfl, rfl, H⟩ := hrel
      have hjL : j ≤ L := by omega
      replace hg := Lib.hid hg
      have b2 : wr.cell? ⟨b, 2, none⟩ = some (.slice a L c) := H.out.cellOf 2 rfl
      rcases Nat.lt_or_ge j L with hlt | hlt
      · have hj0 : (0 : Int) ≤ (j : Int) := by omega
        have hj1 : (j : Int) < (L : Int) := by omega
        have hw6 : IntKind.i64.wrap ((j : Int) + 1) = ((j + 1 : Nat) : Int) := by rw [IntWalk.i64_in _ (by omega)]; omega
        have hk2 := hk.out.hs H.out.tail
        have hr2 := hr.out.step hk2
        obtain ⟨g, off, rfl⟩ := hr2.some_ (by have := hL.out; omega)
        obtain ⟨⟨o1, n1, ⟨a1, l1, c1⟩⟩, hrow⟩ : ∃ r, rows[j]? = some r := ⟨_, List.getElem?_eq_getElem (by have := hL.out; omega)⟩
        have e0 : wr.cell? ⟨g, off + j * 3, none⟩ = some (.int .i64 o1) := hr2.cell hrow 0 rfl
        have e1 : wr.cell? ⟨g, off + j * 3 + 1, none⟩ = some (.int .i64 n1) := hr2.cell hrow 1 rfl
        have e2 : wr.cell? ⟨g, off + j * 3 + 2, none⟩ = some (.slice a1 l1 c1) := hr2.cell hrow 2 rfl
        have T := ih.out _ (List.mem_of_getElem? hrow) wr hk2
        unfold erv at T
        dsimp only at T
        replace T := Lib.hid T
        clear hr2 hrow hk2
        go_wp2_with fail
        refine T.out.mono ?_
        rintro e w2 ⟨v, ⟨r, r2, rfl⟩, rfl, hb⟩
        have H2 := Lib.hid (H.out.below hb)
        clear b2 e0 e1 e2 T hb H
        go_wp2_with fail
        all_goals
          go_roundg (L - (j + 1))
          case measure => have := hg.out; omega
          case rel => exact ⟨j + 1, _, _, by have := hg.out; omega, rfl, rfl, by go_num, H2⟩
      · have hj1 : decide ((j : Int) < (L : Int)) = false := by rw [decide_eq_false_iff_not]; omega
        have hj2 : decide (j < L) = false := by rw [decide_eq_false_iff_not]; omega
        clear hlt
        go_wp2_with fail
        go_ret2
        exact ⟨_, ⟨_, _, rfl⟩, rfl, H.out.tail.under_old⟩
set_option maxRecDepth 100000 in
set_option maxHeartbeats 1600000 in
theorem check40 {W : World} {row : ERow} (he : ExpR W row) (w : World) (hk : Kept W w) : Calls Try.prog 40 #[erv row] w (SomeV IsI w) := by
  obtain ⟨op, n, ⟨a, l, c⟩⟩ := row
  have H := Lib.hid ((Hs.start w).alloc (.cells #[.int .i64 op, .int .i64 n, .slice a l c] 50))
  have TF := fun w hk => formed42 he w hk
  have TS := fun w hk => size43 he w hk
  unfold erv at TF TS ⊢
  dsimp only at TF TS ⊢
  replace TF := Lib.hid TF
  replace TS := Lib.hid TS
  replace hk := Lib.hid hk
  clear he
  go_enter Try.func40, Try.ntmps40
  go_upto_region 1 with (fail)
  generalize World.alloc w _ = w1 at H ⊢
  generalize w.heap.size = b at H ⊢
  have b0 : w1.cell? ⟨b, 0, none⟩ = some (.int .i64 op) := H.out.cellOf 0 rfl
  have b1 : w1.cell? ⟨b, 1, none⟩ = some (.int .i64 n) := H.out.cellOf 1 rfl
  have b2 : w1.cell? ⟨b, 2, none⟩ = some (.slice a l c) := H.out.cellOf 2 rfl
  go_wp2_with fail
  refine (TF.out w1 (hk.out.hs H.out.tail)).mono ?_
  rintro e w2 ⟨v, ⟨r, rfl⟩, rfl, hb⟩
  have H2 := Lib.hid (H.out.below hb)
  clear b0 b1 b2 hb H
  cases r with
  | false =>
    go_wp2_with fail
    go_ret
    exact ⟨_, ⟨_, rfl⟩, rfl, H2.out.tail.under_old⟩
  | true =>
    have b0 : w2.cell? ⟨b, 0, none⟩ = some (.int .i64 op) := H2.out.cellOf 0 rfl
    have b1 : w2.cell? ⟨b, 1, none⟩ = some (.int .i64 n) := H2.out.cellOf 1 rfl
    have b2 : w2.cell? ⟨b, 2, none⟩ = some (.slice a l c) := H2.out.cellOf 2 rfl
    go_wp2_with fail
    refine (TS.out w2 (hk.out.hs H2.out.tail)).mono ?_
    rintro e w3 ⟨v, ⟨r1, r2, rfl⟩, rfl, hb⟩
    have H3 := Lib.hid (H2.out.below hb)
    clear b0 b1 b2 hb H2
    rcases (show 32 < r1 ∨ (r1 ≤ 32 ∧ 8 < r2) ∨ (r1 ≤ 32 ∧ r2 ≤ 8) by omega) with h | ⟨h, h'⟩ | ⟨h, h'⟩
    · go_wp2_with fail
      go_ret
      exact ⟨_, ⟨_, rfl⟩, rfl, H3.out.tail.under_old⟩
    · have h1 : decide (32 < r1) = false := by rw [decide_eq_false_iff_not]; omega
      go_wp2_with fail
      go_ret
      exact ⟨_, ⟨_, rfl⟩, rfl, H3.out.tail.under_old⟩
    · have h1 : decide (32 < r1) = false := by rw [decide_eq_false_iff_not]; omega
      have h2 : decide (8 < r2) = false := by rw [decide_eq_false_iff_not]; omega
      go_wp2_with fail
      go_ret
      exact ⟨_, ⟨_, rfl⟩, rfl, H3.out.tail.under_old⟩
end Go.Proofs.Ytbifajiigpalhaa

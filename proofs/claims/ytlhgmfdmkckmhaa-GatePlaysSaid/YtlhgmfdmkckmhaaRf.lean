import Derived.Test.YtlhgmfdmkckmhaaRe
import Derived.Test.YtlhgmfdmkckmhaaProg
import Derived.Test.YtlhgmfdmkckmhaaLs
import Derived.Outline
import Derived.StillTailTactics
import Derived.Deep.DeepCutAuto
import Derived.Deep.CutBlock
import Derived.Deep.LoopGhost
import Derived.Deep.QuietTactic
import Derived.BigQuiet
import Derived.Deep.RegionHeld3
import Derived.Deep.RegionLaw
set_option linter.unusedVariables false
set_option linter.unusedSimpArgs false
namespace Go.Proofs.Ytlhgmfdmkckmhaa
open Go.RowKit
set_option maxRecDepth 100000 in
set_option maxHeartbeats 8000000 in
theorem rtake25 (p : Nat) (ch : Int) (f : Fr) (r : Rf) (w w0 : World) (R : List HP) (H : Hs w0 w (RefP p r :: R)) (hok : r.come.length = r.m.length) (h64 : r.m.length ≤ 64) (hbd : r.cap.length ≤ 1000000) :
    Calls Try.prog 25 #[.pointer (some ⟨p, 0, none⟩), .int .i64 ch, frv f] w fun e w' => e = .returned (.tuple #[stv (r.take ch f).2.1, .int .i64 (r.take ch f).2.2]) ∧ Hs w0 w' (RefP p (r.take ch f).1 :: R) := by
  have K := (H.alloc (.cells (frc f) 31)).alloc (.cells #[.int .i64 0, .int .i64 0, .int .i64 0, .int .i64 0, .int .i64 0, .int .u64 0, .int .u64 0] 38)
  rw [show (w.alloc (.cells (frc f) 31)).heap.size = w.heap.size + 1 from Array.size_push ..] at K
  unfold frv
  replace K := Lib.hid K
  clear H
  replace hok := Lib.hid hok
  replace h64 := Lib.hid h64
  replace hbd := Lib.hid hbd
  go_enter Try.func25, Try.ntmps25
  go_upto_region 1 with (fail)
  unfold frc at K
  generalize World.alloc _ _ = w1 at K ⊢
  generalize w.heap.size + 1 = br at K ⊢
  generalize w.heap.size = bx at K ⊢
  have k0 : ∃ Am cm, w1.cell? ⟨p, 0, none⟩ = some (.slice Am r.m.length cm) := by
    obtain ⟨Am, cm, Ac, cc, Ak, ck, L⟩ := RefP.open_ K.out.at2
    exact ⟨Am, cm, L.cellOf 0 rfl⟩
  obtain ⟨Am0, cm0, k0⟩ := k0
  rcases (show ch < 0 ∨ (r.m.length : Int) ≤ ch ∨ (0 ≤ ch ∧ ch < r.m.length) by omega) with h | h | ⟨h, h'⟩
  · have hb : Hid (r.take ch f = (r, (0, (0, 0, 0), 0, 0, 0), 150)) := by show _ = _; unfold Rf.take; rw [if_neg (by omega)]; rfl
    have b0 : w1.cell? ⟨br, 0, none⟩ = some (.int .i64 0) := K.out.cellOf 0 rfl
    have b1 : w1.cell? ⟨br, 1, none⟩ = some (.int .i64 0) := K.out.cellOf 1 rfl
    have b2 : w1.cell? ⟨br, 2, none⟩ = some (.int .i64 0) := K.out.cellOf 2 rfl
    have b3 : w1.cell? ⟨br, 3, none⟩ = some (.int .i64 0) := K.out.cellOf 3 rfl
    have b4 : w1.cell? ⟨br, 4, none⟩ = some (.int .i64 0) := K.out.cellOf 4 rfl
    have b5 : w1.cell? ⟨br, 5, none⟩ = some (.int .u64 0) := K.out.cellOf 5 rfl
    have b6 : w1.cell? ⟨br, 6, none⟩ = some (.int .u64 0) := K.out.cellOf 6 rfl
    have g0 := K.out.frozenOf 0
    have g1 := K.out.frozenOf 1
    have g2 := K.out.frozenOf 2
    have g3 := K.out.frozenOf 3
    have g4 := K.out.frozenOf 4
    have g5 := K.out.frozenOf 5
    have g6 := K.out.frozenOf 6
    go_wp2_with fail
    have K9 := (((((((K.out.setCell (i := 0) (.int .i64 0)).setCell (i := 1) (.int .i64 0)).setCell (i := 2) (.int .i64 0)).setCell (i := 3) (.int .i64 0)).setCell (i := 4) (.int .i64 0)).setCell (i := 5) (.int .u64 0)).setCell (i := 6) (.int .u64 0))
    generalize World.setCell _ _ _ = w9 at K9 ⊢
    simp only [List.setIfInBounds_toArray, List.set_cons_zero, List.set_cons_succ] at K9
    have q0 : w9.cell? ⟨br, 0, none⟩ = some (.int .i64 0) := K9.cellOf 0 rfl
    have q1 : w9.cell? ⟨br, 1, none⟩ = some (.int .i64 0) := K9.cellOf 1 rfl
    have q2 : w9.cell? ⟨br, 2, none⟩ = some (.int .i64 0) := K9.cellOf 2 rfl
    have q3 : w9.cell? ⟨br, 3, none⟩ = some (.int .i64 0) := K9.cellOf 3 rfl
    have q4 : w9.cell? ⟨br, 4, none⟩ = some (.int .i64 0) := K9.cellOf 4 rfl
    have q5 : w9.cell? ⟨br, 5, none⟩ = some (.int .u64 0) := K9.cellOf 5 rfl
    have q6 : w9.cell? ⟨br, 6, none⟩ = some (.int .u64 0) := K9.cellOf 6 rfl
    rw [hb.out]
    refine bodyPost_ret (v := .tuple #[stv ((0, (0, 0, 0), 0, 0, 0)), .int .i64 150]) ?_ rfl ⟨rfl, K9.tail.tail⟩
    simp [results, Try.results25, go_sem, q0, q1, q2, q3, q4, q5, q6, stv, noStep]
  · have hb : Hid (r.take ch f = (r, (0, (0, 0, 0), 0, 0, 0), 150)) := by show _ = _; unfold Rf.take; rw [if_neg (by omega)]; rfl
    have h0 : 0 ≤ ch := by omega
    have hd0 : decide (ch < 0) = false := by rw [decide_eq_false_iff_not]; omega
    have b0 : w1.cell? ⟨br, 0, none⟩ = some (.int .i64 0) := K.out.cellOf 0 rfl
    have b1 : w1.cell? ⟨br, 1, none⟩ = some (.int .i64 0) := K.out.cellOf 1 rfl
    have b2 : w1.cell? ⟨br, 2, none⟩ = some (.int .i64 0) := K.out.cellOf 2 rfl
    have b3 : w1.cell? ⟨br, 3, none⟩ = some (.int .i64 0) := K.out.cellOf 3 rfl
    have b4 : w1.cell? ⟨br, 4, none⟩ = some (.int .i64 0) := K.out.cellOf 4 rfl
    have b5 : w1.cell? ⟨br, 5, none⟩ = some (.int .u64 0) := K.out.cellOf 5 rfl
    have b6 : w1.cell? ⟨br, 6, none⟩ = some (.int .u64 0) := K.out.cellOf 6 rfl
    have g0 := K.out.frozenOf 0
    have g1 := K.out.frozenOf 1
    have g2 := K.out.frozenOf 2
    have g3 := K.out.frozenOf 3
    have g4 := K.out.frozenOf 4
    have g5 := K.out.frozenOf 5
    have g6 := K.out.frozenOf 6
    go_wp2_with fail
    have K9 := (((((((K.out.setCell (i := 0) (.int .i64 0)).setCell (i := 1) (.int .i64 0)).setCell (i := 2) (.int .i64 0)).setCell (i := 3) (.int .i64 0)).setCell (i := 4) (.int .i64 0)).setCell (i := 5) (.int .u64 0)).setCell (i := 6) (.int .u64 0))
    generalize World.setCell _ _ _ = w9 at K9 ⊢
    simp only [List.setIfInBounds_toArray, List.set_cons_zero, List.set_cons_succ] at K9
    have q0 : w9.cell? ⟨br, 0, none⟩ = some (.int .i64 0) := K9.cellOf 0 rfl
    have q1 : w9.cell? ⟨br, 1, none⟩ = some (.int .i64 0) := K9.cellOf 1 rfl
    have q2 : w9.cell? ⟨br, 2, none⟩ = some (.int .i64 0) := K9.cellOf 2 rfl
    have q3 : w9.cell? ⟨br, 3, none⟩ = some (.int .i64 0) := K9.cellOf 3 rfl
    have q4 : w9.cell? ⟨br, 4, none⟩ = some (.int .i64 0) := K9.cellOf 4 rfl
    have q5 : w9.cell? ⟨br, 5, none⟩ = some (.int .u64 0) := K9.cellOf 5 rfl
    have q6 : w9.cell? ⟨br, 6, none⟩ = some (.int .u64 0) := K9.cellOf 6 rfl
    rw [hb.out]
    refine bodyPost_ret (v := .tuple #[stv ((0, (0, 0, 0), 0, 0, 0)), .int .i64 150]) ?_ rfl ⟨rfl, K9.tail.tail⟩
    simp [results, Try.results25, go_sem, q0, q1, q2, q3, q4, q5, q6, stv, noStep]
  · obtain ⟨c, rfl⟩ := Int.eq_ofNat_of_zero_le h
    have hcn : c < r.m.length := by omega
    have hnd : decide ((c : Int) < 0) = false := by rw [decide_eq_false_iff_not]; omega
    have hgd : decide ((r.m.length : Int) ≤ (c : Int)) = false := by rw [decide_eq_false_iff_not]; omega
    have hgn : decide (r.m.length ≤ c) = false := by rw [decide_eq_false_iff_not]; omega
    have hcn' := Lib.hid hcn
    go_wp2_with fail
    refine (rblocked27 p r w1 w0 _ K.out.at2 c hok.out).mono ?_
    rintro e w2 ⟨rfl, rfl⟩
    cases hbl : r.blocked c with
    | true =>
      have hb : Hid (r.take c f = (r, (0, (0, 0, 0), 0, 0, 0), 150)) := by show _ = _; unfold Rf.take; rw [if_neg (by rintro ⟨_, _, e⟩; rw [hbl] at e; cases e)]; rfl
      have b0 : w1.cell? ⟨br, 0, none⟩ = some (.int .i64 0) := K.out.cellOf 0 rfl
      have b1 : w1.cell? ⟨br, 1, none⟩ = some (.int .i64 0) := K.out.cellOf 1 rfl
      have b2 : w1.cell? ⟨br, 2, none⟩ = some (.int .i64 0) := K.out.cellOf 2 rfl
      have b3 : w1.cell? ⟨br, 3, none⟩ = some (.int .i64 0) := K.out.cellOf 3 rfl
      have b4 : w1.cell? ⟨br, 4, none⟩ = some (.int .i64 0) := K.out.cellOf 4 rfl
      have b5 : w1.cell? ⟨br, 5, none⟩ = some (.int .u64 0) := K.out.cellOf 5 rfl
      have b6 : w1.cell? ⟨br, 6, none⟩ = some (.int .u64 0) := K.out.cellOf 6 rfl
      have g0 := K.out.frozenOf 0
      have g1 := K.out.frozenOf 1
      have g2 := K.out.frozenOf 2
      have g3 := K.out.frozenOf 3
      have g4 := K.out.frozenOf 4
      have g5 := K.out.frozenOf 5
      have g6 := K.out.frozenOf 6
      go_wp2_with fail
      have K9 := (((((((K.out.setCell (i := 0) (.int .i64 0)).setCell (i := 1) (.int .i64 0)).setCell (i := 2) (.int .i64 0)).setCell (i := 3) (.int .i64 0)).setCell (i := 4) (.int .i64 0)).setCell (i := 5) (.int .u64 0)).setCell (i := 6) (.int .u64 0))
      generalize World.setCell _ _ _ = w9 at K9 ⊢
      simp only [List.setIfInBounds_toArray, List.set_cons_zero, List.set_cons_succ] at K9
      have q0 : w9.cell? ⟨br, 0, none⟩ = some (.int .i64 0) := K9.cellOf 0 rfl
      have q1 : w9.cell? ⟨br, 1, none⟩ = some (.int .i64 0) := K9.cellOf 1 rfl
      have q2 : w9.cell? ⟨br, 2, none⟩ = some (.int .i64 0) := K9.cellOf 2 rfl
      have q3 : w9.cell? ⟨br, 3, none⟩ = some (.int .i64 0) := K9.cellOf 3 rfl
      have q4 : w9.cell? ⟨br, 4, none⟩ = some (.int .i64 0) := K9.cellOf 4 rfl
      have q5 : w9.cell? ⟨br, 5, none⟩ = some (.int .u64 0) := K9.cellOf 5 rfl
      have q6 : w9.cell? ⟨br, 6, none⟩ = some (.int .u64 0) := K9.cellOf 6 rfl
      rw [hb.out]
      refine bodyPost_ret (v := .tuple #[stv ((0, (0, 0, 0), 0, 0, 0)), .int .i64 150]) ?_ rfl ⟨rfl, K9.tail.tail⟩
      simp [results, Try.results25, go_sem, q0, q1, q2, q3, q4, q5, q6, stv, noStep]
    | false =>
      have hb : Hid (r.take c f = ((r.takeIn c f).1, (r.takeIn c f).2, 0)) := by show _ = _; unfold Rf.take; rw [if_pos ⟨h, h', hbl⟩, Int.toNat_natCast]
      clear hbl hnd hgd hgn k0
      go_upto_region 3 with (fail)
      obtain ⟨x, hx⟩ : ∃ x, r.come[c]? = some x := ⟨_, List.getElem?_eq_getElem (by have := hok.out; omega)⟩
      obtain ⟨Am, cm, Ac, cc, Ak, ck, L⟩ := RefP.open_ K.out.at2
      obtain ⟨g, off, rfl⟩ := L.at2.ls_rd.some_ (by have := hok.out; omega)
      have k2 : w1.cell? ⟨p, 2, none⟩ = some (.int .u64 r.under) := L.cellOf 2 rfl
      have k3 : w1.cell? ⟨p, 3, none⟩ = some (.bool r.over) := L.cellOf 3 rfl
      have k4 : w1.cell? ⟨p, 4, none⟩ = some (.slice (some ⟨g, off, none⟩) r.come.length cc) := L.cellOf 4 rfl
      have hcl : (c : Int) < (r.come.length : Int) := by have := hok.out; omega
      have cx : w1.cell? ⟨g, off + c, none⟩ = some (.bool x) := by have := L.at2.ls_rd.cell hx 0 rfl; simpa [Enc.flag] using this
      have hccc := L.at2.ls_rd.caps.2
      have hxd : Hid (r.hit c = (r.under != 0 && r.over && !x)) := by show _ = _; unfold Rf.hit; rw [List.getD_eq_getElem?_getD, hx]; rfl
      clear L hx
      go_cut [8] (fun bv wx => bv = .bool (r.hit c) ∧ wx = w1)
      case first =>
        obtain ⟨o, ho⟩ : ∃ o, r.over = o := ⟨_, rfl⟩
        obtain ⟨uz, huz⟩ : ∃ b, (r.under != 0) = b := ⟨_, rfl⟩
        replace hxd : Hid (r.hit c = (uz && o && !x)) := by show _ = _; rw [hxd.out, ho, huz]
        rw [ho] at k3
        clear ho K hb
        cases uz <;> cases o <;> cases x
        all_goals
          go_wp2_with fail
          go_meet
          case rel => exact ⟨by rw [hxd.out]; rfl, rfl⟩
      case rest =>
        obtain ⟨he, hw⟩ := hcut
        subst he
        subst hw
        clear k2 k3 k4 cx hxd hcl hccc
        obtain ⟨hit, hhit⟩ : ∃ b, r.hit c = b := ⟨_, rfl⟩
        rw [hhit]
        replace hhit := Lib.hid hhit
        have y0 : wc.cell? ⟨bx, 0, none⟩ = some (.int .i64 f.1) := K.out.at1.cellOf 0 rfl
        go_upto_region 4 with (fail)
        go_cut [58] (fun bv wx => bv = .bool (hit && (f.1 == 1 || f.1 == 2)) ∧ wx = wc)
        case first =>
          clear K hb
          cases hit with
          | false =>
            go_wp2_with fail
            go_meet
            case rel => exact ⟨rfl, rfl⟩
          | true =>
            cases e1 : (f.1 == 1) with
            | true =>
              go_wp2_with fail
              go_meet
              case rel => exact ⟨by rw [e1]; rfl, rfl⟩
            | false =>
              go_wp2_with fail
              go_meet
              case rel => exact ⟨by rw [e1]; rfl, rfl⟩
        case rest =>
          obtain ⟨he, hw⟩ := hcut
          subst he
          subst hw
          obtain ⟨cb, hcb⟩ : ∃ b, (hit && (f.1 == 1 || f.1 == 2)) = b := ⟨_, rfl⟩
          have hct : Hid (r.catch_ c f = if cb = true then ⟨r.m, r.last, r.under, r.over, r.come, r.cap ++ [((c : Int), f)]⟩ else r) := by show _ = _; unfold Rf.catch_; rw [hhit.out, hcb]
          rw [hcb]
          clear hcb y0 hhit
          go_upto_if 58 with (fail)
          go_cut [] (fun wx => Hid (Hs w0 wx (Blk br (.cells #[.int .i64 0, .int .i64 0, .int .i64 0, .int .i64 0, .int .i64 0, .int .u64 0, .int .u64 0] 38) :: Blk bx (.cells #[.int .i64 f.1, .int .i64 f.2.1.1, .int .i64 f.2.1.2.1, .int .i64 f.2.1.2.2, .int .i64 f.2.2.1, .int .u64 f.2.2.2.1, .bool f.2.2.2.2] 31) :: RefP p (r.catch_ c f) :: R)))
          case first =>
            cases cb with
            | false =>
              rw [if_neg (by simp)] at hct
              go_wp2_with fail
              go_meet
              case rel =>
                rw [hct.out]
                exact K
            | true =>
              rw [if_pos rfl] at hct
              obtain ⟨Am, cm, Ac, cc, Ak, ck, L⟩ := RefP.open_ K.out.at2
              have hck := L.at3.ls_rd.caps.2.1
              have hcap := cut_cap Try.prog 43 46 8 Try.underlying43 (by kernel_rfl) Ak r.cap.length ck hck
              have hck' : (r.cap.length : Int) ≤ (ck : Int) := by omega
              clear K
              go_wp2_with fail
              generalize hwd : wc = w3 at L ⊢
              clear hwd
              replace L := Lib.hid L.drew.at5
              refine wp_region_left (S := fun w' : World => w'.cell? ⟨p, 5, none⟩ = some (.slice Ak r.cap.length ck) ∧ w'.cell? ⟨bx, 0, none⟩ = some (.int .i64 f.1) ∧ w'.cell? ⟨bx, 1, none⟩ = some (.int .i64 f.2.1.1) ∧ w'.cell? ⟨bx, 2, none⟩ = some (.int .i64 f.2.1.2.1) ∧ w'.cell? ⟨bx, 3, none⟩ = some (.int .i64 f.2.1.2.2) ∧ w'.cell? ⟨bx, 4, none⟩ = some (.int .i64 f.2.2.1) ∧ w'.cell? ⟨bx, 5, none⟩ = some (.int .u64 f.2.2.2.1) ∧ w'.cell? ⟨bx, 6, none⟩ = some (.bool f.2.2.2.2)) 23 mixed ?_
              have hS : (fun w' : World => w'.cell? ⟨p, 5, none⟩ = some (.slice Ak r.cap.length ck) ∧ w'.cell? ⟨bx, 0, none⟩ = some (.int .i64 f.1) ∧ w'.cell? ⟨bx, 1, none⟩ = some (.int .i64 f.2.1.1) ∧ w'.cell? ⟨bx, 2, none⟩ = some (.int .i64 f.2.1.2.1) ∧ w'.cell? ⟨bx, 3, none⟩ = some (.int .i64 f.2.1.2.2) ∧ w'.cell? ⟨bx, 4, none⟩ = some (.int .i64 f.2.2.1) ∧ w'.cell? ⟨bx, 5, none⟩ = some (.int .u64 f.2.2.2.1) ∧ w'.cell? ⟨bx, 6, none⟩ = some (.bool f.2.2.2.2)) w3.drew := by exact ⟨L.out.at1.cellOf 5 rfl, L.out.cellOf 0 rfl, L.out.cellOf 1 rfl, L.out.cellOf 2 rfl, L.out.cellOf 3 rfl, L.out.cellOf 4 rfl, L.out.cellOf 5 rfl, L.out.cellOf 6 rfl⟩
              refine Left.pure (i := 0) (v := ?v5_0) rfl (by kernel_rfl) (fun _ _ _ h => h) (Or.inr hS) (Or.inl ⟨by kernel_rfl, fun w _ => ?hy5_0⟩) ?rest5_0
              case hy5_0 => (go_simp; try with_reducible rfl)
              try simp only [Act.put, List.setIfInBounds_toArray, List.set_cons_zero, List.set_cons_succ]
              refine Left.pure (i := 1) (v := ?v5_1) rfl (by kernel_rfl) (fun _ _ _ h => h) (Or.inr hS) (Or.inl ⟨by kernel_rfl, fun w _ => ?hy5_1⟩) ?rest5_1
              case hy5_1 => (go_simp; try with_reducible rfl)
              try simp only [Act.put, List.setIfInBounds_toArray, List.set_cons_zero, List.set_cons_succ]
              refine Left.pure (i := 2) (v := ?v5_2) rfl (by kernel_rfl) (fun _ _ _ h => h) (Or.inr hS) (Or.inl ⟨by kernel_rfl, fun w _ => ?hy5_2⟩) ?rest5_2
              case hy5_2 => (go_simp; try with_reducible rfl)
              try simp only [Act.put, List.setIfInBounds_toArray, List.set_cons_zero, List.set_cons_succ]
              refine Left.pure (i := 3) (v := ?v5_3) rfl (by kernel_rfl) (fun _ _ _ h => h) (Or.inr hS) (Or.inl ⟨by kernel_rfl, fun w _ => ?hy5_3⟩) ?rest5_3
              case hy5_3 => (go_simp; try with_reducible rfl)
              try simp only [Act.put, List.setIfInBounds_toArray, List.set_cons_zero, List.set_cons_succ]
              refine Left.take (i := 4) (v := ?v5_4) rfl (by kernel_rfl) (fun _ _ _ h => h) hS (Or.inl ⟨by kernel_rfl, fun w hSw => ?hy5_4⟩) ?rest5_4
              case hy5_4 => ((try dsimp only at hSw); go_simp; try with_reducible rfl)
              try simp only [Act.put, List.setIfInBounds_toArray, List.set_cons_zero, List.set_cons_succ]
              refine Left.pure (i := 5) (v := ?v5_5) rfl (by kernel_rfl) (fun _ _ _ h => h) (Or.inr hS) (Or.inl ⟨by kernel_rfl, fun w _ => ?hy5_5⟩) ?rest5_5
              case hy5_5 => (go_simp; try with_reducible rfl)
              try simp only [Act.put, List.setIfInBounds_toArray, List.set_cons_zero, List.set_cons_succ]
              refine Left.pure (i := 6) (v := ?v5_6) rfl (by kernel_rfl) (fun _ _ _ h => h) (Or.inr hS) (Or.inl ⟨by kernel_rfl, fun w _ => ?hy5_6⟩) ?rest5_6
              case hy5_6 => (go_simp; try with_reducible rfl)
              try simp only [Act.put, List.setIfInBounds_toArray, List.set_cons_zero, List.set_cons_succ]
              refine Left.pure (i := 7) (v := ?v5_7) rfl (by kernel_rfl) (fun _ _ _ h => h) (Or.inr hS) (Or.inl ⟨by kernel_rfl, fun w _ => ?hy5_7⟩) ?rest5_7
              case hy5_7 => (go_simp; try with_reducible rfl)
              try simp only [Act.put, List.setIfInBounds_toArray, List.set_cons_zero, List.set_cons_succ]
              refine Left.take (i := 8) (v := ?v5_8) rfl (by kernel_rfl) (fun _ _ _ h => h) hS (Or.inl ⟨by kernel_rfl, fun w hSw => ?hy5_8⟩) ?rest5_8
              case hy5_8 => ((try dsimp only at hSw); go_simp; try with_reducible rfl)
              try simp only [Act.put, List.setIfInBounds_toArray, List.set_cons_zero, List.set_cons_succ]
              refine Left.pure (i := 9) (v := ?v5_9) rfl (by kernel_rfl) (fun _ _ _ h => h) (Or.inr hS) (Or.inl ⟨by kernel_rfl, fun w _ => ?hy5_9⟩) ?rest5_9
              case hy5_9 => (go_simp; try with_reducible rfl)
              try simp only [Act.put, List.setIfInBounds_toArray, List.set_cons_zero, List.set_cons_succ]
              refine Left.pure (i := 10) (v := ?v5_10) rfl (by kernel_rfl) (fun _ _ _ h => h) (Or.inr hS) (Or.inl ⟨by kernel_rfl, fun w _ => ?hy5_10⟩) ?rest5_10
              case hy5_10 => (go_simp; try with_reducible rfl)
              try simp only [Act.put, List.setIfInBounds_toArray, List.set_cons_zero, List.set_cons_succ]
              refine Left.pure (i := 11) (v := ?v5_11) rfl (by kernel_rfl) (fun _ _ _ h => h) (Or.inr hS) (Or.inl ⟨by kernel_rfl, fun w _ => ?hy5_11⟩) ?rest5_11
              case hy5_11 => (go_simp; try with_reducible rfl)
              try simp only [Act.put, List.setIfInBounds_toArray, List.set_cons_zero, List.set_cons_succ]
              refine Left.pure (i := 12) (v := ?v5_12) rfl (by kernel_rfl) (fun _ _ _ h => h) (Or.inr hS) (Or.inl ⟨by kernel_rfl, fun w _ => ?hy5_12⟩) ?rest5_12
              case hy5_12 => (go_simp; try with_reducible rfl)
              try simp only [Act.put, List.setIfInBounds_toArray, List.set_cons_zero, List.set_cons_succ]
              refine Left.take (i := 13) (v := ?v5_13) rfl (by kernel_rfl) (fun _ _ _ h => h) hS (Or.inl ⟨by kernel_rfl, fun w hSw => ?hy5_13⟩) ?rest5_13
              case hy5_13 => ((try dsimp only at hSw); go_simp; try with_reducible rfl)
              try simp only [Act.put, List.setIfInBounds_toArray, List.set_cons_zero, List.set_cons_succ]
              refine Left.pure (i := 14) (v := ?v5_14) rfl (by kernel_rfl) (fun _ _ _ h => h) (Or.inr hS) (Or.inl ⟨by kernel_rfl, fun w _ => ?hy5_14⟩) ?rest5_14
              case hy5_14 => (go_simp; try with_reducible rfl)
              try simp only [Act.put, List.setIfInBounds_toArray, List.set_cons_zero, List.set_cons_succ]
              refine Left.pure (i := 15) (v := ?v5_15) rfl (by kernel_rfl) (fun _ _ _ h => h) (Or.inr hS) (Or.inl ⟨by kernel_rfl, fun w _ => ?hy5_15⟩) ?rest5_15
              case hy5_15 => (go_simp; try with_reducible rfl)
              try simp only [Act.put, List.setIfInBounds_toArray, List.set_cons_zero, List.set_cons_succ]
              refine Left.pure (i := 16) (v := ?v5_16) rfl (by kernel_rfl) (fun _ _ _ h => h) (Or.inr hS) (Or.inl ⟨by kernel_rfl, fun w _ => ?hy5_16⟩) ?rest5_16
              case hy5_16 => (go_simp; try with_reducible rfl)
              try simp only [Act.put, List.setIfInBounds_toArray, List.set_cons_zero, List.set_cons_succ]
              refine Left.take (i := 17) (v := ?v5_17) rfl (by kernel_rfl) (fun _ _ _ h => h) hS (Or.inl ⟨by kernel_rfl, fun w hSw => ?hy5_17⟩) ?rest5_17
              case hy5_17 => ((try dsimp only at hSw); go_simp; try with_reducible rfl)
              try simp only [Act.put, List.setIfInBounds_toArray, List.set_cons_zero, List.set_cons_succ]
              refine Left.pure (i := 18) (v := ?v5_18) rfl (by kernel_rfl) (fun _ _ _ h => h) (Or.inr hS) (Or.inl ⟨by kernel_rfl, fun w _ => ?hy5_18⟩) ?rest5_18
              case hy5_18 => (go_simp; try with_reducible rfl)
              try simp only [Act.put, List.setIfInBounds_toArray, List.set_cons_zero, List.set_cons_succ]
              refine Left.run (i := 19) rfl (by kernel_rfl) (fun K hK => ?_)
              have L2 := L.out.alloc (.cells #[.int .i64 c, .int .i64 f.1, .int .i64 f.2.1.1, .int .i64 f.2.1.2.1, .int .i64 f.2.1.2.2, .int .i64 f.2.2.1, .int .u64 f.2.2.2.1, .bool f.2.2.2.2] 46)
              go_simp
              replace hS : (fun w' : World => w'.cell? ⟨p, 5, none⟩ = some (.slice Ak r.cap.length ck) ∧ w'.cell? ⟨bx, 0, none⟩ = some (.int .i64 f.1) ∧ w'.cell? ⟨bx, 1, none⟩ = some (.int .i64 f.2.1.1) ∧ w'.cell? ⟨bx, 2, none⟩ = some (.int .i64 f.2.1.2.1) ∧ w'.cell? ⟨bx, 3, none⟩ = some (.int .i64 f.2.1.2.2) ∧ w'.cell? ⟨bx, 4, none⟩ = some (.int .i64 f.2.2.1) ∧ w'.cell? ⟨bx, 5, none⟩ = some (.int .u64 f.2.2.2.1) ∧ w'.cell? ⟨bx, 6, none⟩ = some (.bool f.2.2.2.2)) (w3.drew.alloc (.cells #[.int .i64 c, .int .i64 f.1, .int .i64 f.2.1.1, .int .i64 f.2.1.2.1, .int .i64 f.2.1.2.2, .int .i64 f.2.2.1, .int .u64 f.2.2.2.1, .bool f.2.2.2.2] 46)) := by exact ⟨L2.at2.cellOf 5 rfl, L2.at1.cellOf 0 rfl, L2.at1.cellOf 1 rfl, L2.at1.cellOf 2 rfl, L2.at1.cellOf 3 rfl, L2.at1.cellOf 4 rfl, L2.at1.cellOf 5 rfl, L2.at1.cellOf 6 rfl⟩
              refine hK.out _ _ (Or.inr hS) ?_
              clear hK K
              try simp only [Act.put, List.setIfInBounds_toArray, List.set_cons_zero, List.set_cons_succ]
              refine Left.run (i := 20) rfl (by kernel_rfl) (fun K hK => ?_)
              refine step_append_box (E := EOut) (v := .slice Ak r.cap.length r.cap.length) (by rfl) (.tmp 74) (.tmp 78) 43 (by rfl) 46 _ 8 64 Try.underlying43 infoO rfl (by decide) (by decide) rfl (by rfl) (by rfl) ((L.out.alloc_ _).at4.ls_cap r.cap.length (Nat.le_refl _) hck) ((c : Int), f) (by exact RdL.boxAt _ (by simp)) (by have := hbd.out; omega) ?_
              intro A5 c5 w5 L3
              replace hS : (fun w' : World => w'.cell? ⟨p, 5, none⟩ = some (.slice Ak r.cap.length ck) ∧ w'.cell? ⟨bx, 0, none⟩ = some (.int .i64 f.1) ∧ w'.cell? ⟨bx, 1, none⟩ = some (.int .i64 f.2.1.1) ∧ w'.cell? ⟨bx, 2, none⟩ = some (.int .i64 f.2.1.2.1) ∧ w'.cell? ⟨bx, 3, none⟩ = some (.int .i64 f.2.1.2.2) ∧ w'.cell? ⟨bx, 4, none⟩ = some (.int .i64 f.2.2.1) ∧ w'.cell? ⟨bx, 5, none⟩ = some (.int .u64 f.2.2.2.1) ∧ w'.cell? ⟨bx, 6, none⟩ = some (.bool f.2.2.2.2)) w5 := by exact ⟨L3.at2.cellOf 5 rfl, L3.at1.cellOf 0 rfl, L3.at1.cellOf 1 rfl, L3.at1.cellOf 2 rfl, L3.at1.cellOf 3 rfl, L3.at1.cellOf 4 rfl, L3.at1.cellOf 5 rfl, L3.at1.cellOf 6 rfl⟩
              refine hK.out _ _ (Or.inr hS) ?_
              clear hK K
              try simp only [Act.put, List.setIfInBounds_toArray, List.set_cons_zero, List.set_cons_succ]
              refine Left.pure (i := 21) (v := ?v5_21) rfl (by kernel_rfl) (fun _ _ _ h => h) (Or.inr hS) (Or.inl ⟨by kernel_rfl, fun w _ => ?hy5_21⟩) ?rest5_21
              case hy5_21 => (go_simp; try with_reducible rfl)
              try simp only [Act.put, List.setIfInBounds_toArray, List.set_cons_zero, List.set_cons_succ]
              refine Left.pure (i := 22) (v := ?v5_22) rfl (by kernel_rfl) (fun _ _ _ h => h) (Or.inr hS) (Or.inl ⟨by kernel_rfl, fun w _ => ?hy5_22⟩) ?rest5_22
              case hy5_22 => (go_simp; try with_reducible rfl)
              try simp only [Act.put, List.setIfInBounds_toArray, List.set_cons_zero, List.set_cons_succ]
              refine Left.run (i := 23) rfl (by kernel_rfl) (fun K hK => ?_)
              have f5 := L3.at2.frozenOf 5
              have d5 := L3.at2.cellOf 5 rfl
              go_simp
              refine hK.out _ _ (Or.inl (by kernel_rfl)) ?_
              clear hK K
              try simp only [Act.put, List.setIfInBounds_toArray, List.set_cons_zero, List.set_cons_succ]
              refine Left.done (by kernel_rfl) ?_ _
              have L4 := L3.at2.setCellTo 5 (.slice A5 (r.cap.length + 1) c5) #[.slice Am r.m.length cm, .int .u64 r.last, .int .u64 r.under, .bool r.over, .slice Ac r.come.length cc, .slice A5 (r.cap.length + 1) c5] rfl
              clear f5 d5
              go_wp2_with fail
              go_meet
              case rel =>
                rw [hct.out]
                exact Lib.hid (RefP.mk_ (r := ⟨r.m, r.last, r.under, r.over, r.come, r.cap ++ [((c : Int), f)]⟩) (by refine Hs.conseq (L4) fun h s => ?_; refine Sep.pickc (by first | with_reducible exact s | with_reducible exact s.at1 | with_reducible exact s.at2 | with_reducible exact s.at3 | with_reducible exact s.at4 | with_reducible exact s.at5 | with_reducible exact s.at6 | with_reducible exact s.at7) (fun h s => ?_); refine Sep.pickc (by first | with_reducible exact s | with_reducible exact s.at1 | with_reducible exact s.at2 | with_reducible exact s.at3 | with_reducible exact s.at4 | with_reducible exact s.at5 | with_reducible exact s.at6 | with_reducible exact s.at7) (fun h s => ?_); refine Sep.pickc (by first | with_reducible exact s | with_reducible exact s.at1 | with_reducible exact s.at2 | with_reducible exact s.at3 | with_reducible exact s.at4 | with_reducible exact s.at5 | with_reducible exact s.at6 | with_reducible exact s.at7) (fun h s => ?_); refine Sep.pickc (by first | with_reducible exact s | with_reducible exact s.at1 | with_reducible exact s.at2 | with_reducible exact s.at3 | with_reducible exact s.at4 | with_reducible exact s.at5 | with_reducible exact s.at6 | with_reducible exact s.at7) (fun h s => ?_); exact s)).at1.at2
          case rest =>
            clear K
            have K := hcut
            clear hcut
            have hm2 : (r.catch_ c f).m = r.m := by unfold Rf.catch_; split <;> rfl
            have h3r : Hid (f.1 ≠ 1 → f.1 ≠ 2 → r.catch_ c f = r) := by
              intro h1 h2
              unfold Rf.catch_
              rw [if_neg (by rw [beq_eq_false_iff_ne.2 h1, beq_eq_false_iff_ne.2 h2]; simp)]
            clear hct
            obtain ⟨r2, hr2⟩ : ∃ t, r.catch_ c f = t := ⟨_, rfl⟩
            rw [hr2] at K hm2 h3r
            have y0 : wc.cell? ⟨bx, 0, none⟩ = some (.int .i64 f.1) := K.out.at1.cellOf 0 rfl
            by_cases h1 : f.1 = 1
            · have e1 : (f.1 == 1) = true := by rw [beq_iff_eq]; exact h1
              have ht : Hid (r.take c f = (r2, (1, f.2.1, 0, 0, 0), 0)) := by show _ = _; rw [hb.out]; unfold Rf.takeIn; rw [if_pos h1, hr2]
              clear h1 h3r hb
              have y1 : wc.cell? ⟨bx, 1, none⟩ = some (.int .i64 f.2.1.1) := K.out.at1.cellOf 1 rfl
              have y2 : wc.cell? ⟨bx, 2, none⟩ = some (.int .i64 f.2.1.2.1) := K.out.at1.cellOf 2 rfl
              have y3 : wc.cell? ⟨bx, 3, none⟩ = some (.int .i64 f.2.1.2.2) := K.out.at1.cellOf 3 rfl
              have b0 : wc.cell? ⟨br, 0, none⟩ = some (.int .i64 0) := K.out.cellOf 0 rfl
              have b1 : wc.cell? ⟨br, 1, none⟩ = some (.int .i64 0) := K.out.cellOf 1 rfl
              have b2 : wc.cell? ⟨br, 2, none⟩ = some (.int .i64 0) := K.out.cellOf 2 rfl
              have b3 : wc.cell? ⟨br, 3, none⟩ = some (.int .i64 0) := K.out.cellOf 3 rfl
              have b4 : wc.cell? ⟨br, 4, none⟩ = some (.int .i64 0) := K.out.cellOf 4 rfl
              have b5 : wc.cell? ⟨br, 5, none⟩ = some (.int .u64 0) := K.out.cellOf 5 rfl
              have b6 : wc.cell? ⟨br, 6, none⟩ = some (.int .u64 0) := K.out.cellOf 6 rfl
              have g0 := K.out.frozenOf 0
              have g1 := K.out.frozenOf 1
              have g2 := K.out.frozenOf 2
              have g3 := K.out.frozenOf 3
              have g4 := K.out.frozenOf 4
              have g5 := K.out.frozenOf 5
              have g6 := K.out.frozenOf 6
              go_wp2_with fail
              have K9 := (((((((K.out.setCell (i := 0) (.int .i64 1)).setCell (i := 1) (.int .i64 f.2.1.1)).setCell (i := 2) (.int .i64 f.2.1.2.1)).setCell (i := 3) (.int .i64 f.2.1.2.2)).setCell (i := 4) (.int .i64 0)).setCell (i := 5) (.int .u64 0)).setCell (i := 6) (.int .u64 0))
              generalize World.setCell _ _ _ = w9 at K9 ⊢
              simp only [List.setIfInBounds_toArray, List.set_cons_zero, List.set_cons_succ] at K9
              have q0 : w9.cell? ⟨br, 0, none⟩ = some (.int .i64 1) := K9.cellOf 0 rfl
              have q1 : w9.cell? ⟨br, 1, none⟩ = some (.int .i64 f.2.1.1) := K9.cellOf 1 rfl
              have q2 : w9.cell? ⟨br, 2, none⟩ = some (.int .i64 f.2.1.2.1) := K9.cellOf 2 rfl
              have q3 : w9.cell? ⟨br, 3, none⟩ = some (.int .i64 f.2.1.2.2) := K9.cellOf 3 rfl
              have q4 : w9.cell? ⟨br, 4, none⟩ = some (.int .i64 0) := K9.cellOf 4 rfl
              have q5 : w9.cell? ⟨br, 5, none⟩ = some (.int .u64 0) := K9.cellOf 5 rfl
              have q6 : w9.cell? ⟨br, 6, none⟩ = some (.int .u64 0) := K9.cellOf 6 rfl
              rw [ht.out]
              refine bodyPost_ret (v := .tuple #[stv (1, f.2.1, 0, 0, 0), .int .i64 0]) ?_ rfl ⟨rfl, K9.tail.tail⟩
              simp [results, Try.results25, go_sem, q0, q1, q2, q3, q4, q5, q6, stv, noStep]
            · have e1 : (f.1 == 1) = false := by rw [beq_eq_false_iff_ne]; exact h1
              by_cases h2 : f.1 = 2
              · have e2 : (f.1 == 2) = true := by rw [beq_iff_eq]; exact h2
                have ht : Hid (r.take c f = (r2.rise c f.2.2.1, r2.riseS c f.2.2.1, 0)) := by show _ = _; rw [hb.out]; unfold Rf.takeIn; rw [if_neg h1, if_pos h2, hr2]
                clear h1 h2 h3r hb
                have hne : r2.m ≠ [] := fun h => by have h1 := congrArg List.length h; rw [hm2, List.length_nil] at h1; have := hcn'.out; omega
                obtain ⟨N, hN⟩ : ∃ N, r2.m.length = N := ⟨_, rfl⟩
                have hcN : c < N := by rw [← hN, hm2]; exact hcn'.out
                have hN64 : N ≤ 64 := by rw [← hN, hm2]; exact h64.out
                obtain ⟨x, hx⟩ : ∃ x, r2.m[c]? = some x := ⟨_, List.getElem?_eq_getElem (by omega)⟩
                obtain ⟨v, hv⟩ : ∃ v, f.2.2.1 = v := ⟨_, rfl⟩
                have hra : Hid (r2.raised c v = r2.m.set c (max x v)) := by show _ = _; unfold Rf.raised; rw [List.getD_eq_getElem?_getD, hx]; rfl
                obtain ⟨l0, hl0⟩ : ∃ l, lmin r2.m = l := ⟨_, rfl⟩
                obtain ⟨l1, hl1⟩ : ∃ l, lmin (r2.raised c v) = l := ⟨_, rfl⟩
                have hst : Hid (r2.riseS c v = if l0 < l1 then (2, (0, 0, 0), l1, 0, 0) else (0, (0, 0, 0), 0, 0, 0)) := by show _ = _; unfold Rf.riseS; rw [hl0, hl1]; rfl
                have hne3 : Hid ((r2.rise c v).m ≠ []) := fun h => by have h1 := congrArg List.length h; rw [show (r2.rise c v).m = r2.m.set c (max x v) from hra.out, List.length_set, List.length_nil] at h1; omega
                have hl3 : Hid (lmin (r2.rise c v).m = l1) := hl1
                rw [hv] at ht
                replace hv := Lib.hid hv
                replace hne := Lib.hid hne
                replace hl0 := Lib.hid hl0
                replace hl1 := Lib.hid hl1
                replace hN := Lib.hid hN
                clear hm2
                replace hx := Lib.hid hx
                go_wp2_with fail
                refine (rmark26 p r2 wc w0 _ K.out.at2 hne.out).mono ?_
                rw [hl0.out]
                rintro e w2 ⟨rfl, rfl⟩
                obtain ⟨Am, cm, Ac, cc, Ak, ck, L⟩ := RefP.open_ K.out.at2
                rw [hN.out] at L
                have k0 : wc.cell? ⟨p, 0, none⟩ = some (.slice Am N cm) := L.cellOf 0 rfl
                have hr := Lib.hid L.at1.ls_rd
                have L1 := Lib.hid (L.ls_nil (Enc.num .i64) 2)
                have hN6 : Hid (N * 8 ≤ 140737488355328) := by show _ ≤ _; omega
                have hl9 : Hid (([] : List Int).length + r2.m.length = N) := by show _ = _; rw [hN.out]; simp
                have hc0 : (0 : Int) ≤ (c : Int) := by omega
                have hc1 : (c : Int) < (N : Int) := by omega
                replace hcN := Lib.hid hcN
                replace hN64 := Lib.hid hN64
                clear K L y0
                go_wp2_with (at_builtin; refine wpList_appendN (E := Enc.num .i64) N rfl (.const (.slice none 0 0)) (.tmp 97) 50 rfl 2 _ 1 8 Try.underlying50 infoI rfl (by decide) (by decide) rfl rfl _ rfl L1.out hr.out hN6.out hl9.out ?_)
                intro A5 c5 w5 L2
                try rw [List.nil_append] at L2
                obtain ⟨g5, o5, rfl⟩ := L2.ls_rd.some_ (by have := hN.out; have := hcN.out; omega)
                have hc5 := L2.ls_rd.caps.2
                have f0 := L2.at1.frozenOf 0
                have d0 := L2.at1.cellOf 0 rfl
                have L3 := Lib.hid ((L2.at1.setCellTo 0 (.slice (some ⟨g5, o5, none⟩) N c5) #[.slice (some ⟨g5, o5, none⟩) N c5, .int .u64 r2.last, .int .u64 r2.under, .bool r2.over, .slice Ac r2.come.length cc, .slice Ak r2.cap.length ck] rfl).at2.tail)
                clear L1 L2 hr k0
                go_upto_region 12 with (fail)
                generalize World.setCell _ _ _ = w6 at L3 ⊢
                clear f0 d0
                rw [hv.out] at L3
                go_cut [] (fun wx => Hid (Hs w0 wx (RefP p (r2.rise c v) :: Blk br (.cells #[.int .i64 0, .int .i64 0, .int .i64 0, .int .i64 0, .int .i64 0, .int .u64 0, .int .u64 0] 38) :: R)))
                case first =>
                  rcases (show (x < v ∧ decide (x < v) = true ∧ max x v = v) ∨ (¬ x < v ∧ decide (x < v) = false ∧ max x v = x) by by_cases h : x < v; (· left; exact ⟨h, by simpa using h, by omega⟩); (· right; exact ⟨h, by simpa using h, by omega⟩)) with ⟨hlt, hlb, hmx⟩ | ⟨hlt, hlb, hmx⟩
                  · rw [hmx] at hra
                    replace hmx := Lib.hid hmx
                    have cx : Hid (∀ w' R', Hs w0 w' (Blk p (.cells #[.slice (some ⟨g5, o5, none⟩) N c5, .int .u64 r2.last, .int .u64 r2.under, .bool r2.over, .slice Ac r2.come.length cc, .slice Ak r2.cap.length ck] 62) :: Ls (Enc.num .i64) 2 (.slice (some ⟨g5, o5, none⟩) N c5) r2.m :: R') → w'.cell? ⟨g5, o5 + c, none⟩ = some (.int .i64 x)) := fun w' R' h => by have := h.at1.ls_rd.cell hx.out 0 rfl; simpa [Enc.num] using this
                    have L4 := L3.out.drew
                    clear L3
                    replace L4 := Lib.hid L4
                    skip
                    refine wp_region_left (S := fun w' : World => w'.cell? ⟨p, 0, none⟩ = some (.slice (some ⟨g5, o5, none⟩) N c5) ∧ w'.cell? ⟨g5, o5 + c, none⟩ = some (.int .i64 x) ∧ w'.cell? ⟨bx, 4, none⟩ = some (.int .i64 v)) 16 mixed ?_
                    have hS : (fun w' : World => w'.cell? ⟨p, 0, none⟩ = some (.slice (some ⟨g5, o5, none⟩) N c5) ∧ w'.cell? ⟨g5, o5 + c, none⟩ = some (.int .i64 x) ∧ w'.cell? ⟨bx, 4, none⟩ = some (.int .i64 v)) w6.drew := by exact ⟨L4.out.cellOf 0 rfl, cx.out _ _ L4.out, L4.out.at5.cellOf 4 rfl⟩
                    refine Left.pure (i := 0) (v := ?va12_0) rfl (by kernel_rfl) (fun _ _ _ h => h) (Or.inr hS) (Or.inl ⟨by kernel_rfl, fun w _ => ?hya12_0⟩) ?resta12_0
                    case hya12_0 => (go_simp; try with_reducible rfl)
                    try simp only [Act.put, List.setIfInBounds_toArray, List.set_cons_zero, List.set_cons_succ]
                    refine Left.pure (i := 1) (v := ?va12_1) rfl (by kernel_rfl) (fun _ _ _ h => h) (Or.inr hS) (Or.inl ⟨by kernel_rfl, fun w _ => ?hya12_1⟩) ?resta12_1
                    case hya12_1 => (go_simp; try with_reducible rfl)
                    try simp only [Act.put, List.setIfInBounds_toArray, List.set_cons_zero, List.set_cons_succ]
                    refine Left.pure (i := 2) (v := ?va12_2) rfl (by kernel_rfl) (fun _ _ _ h => h) (Or.inr hS) (Or.inl ⟨by kernel_rfl, fun w _ => ?hya12_2⟩) ?resta12_2
                    case hya12_2 => (go_simp; try with_reducible rfl)
                    try simp only [Act.put, List.setIfInBounds_toArray, List.set_cons_zero, List.set_cons_succ]
                    refine Left.take (i := 3) (v := ?va12_3) rfl (by kernel_rfl) (fun _ _ _ h => h) hS (Or.inl ⟨by kernel_rfl, fun w hSw => ?hya12_3⟩) ?resta12_3
                    case hya12_3 => ((try dsimp only at hSw); go_simp; try with_reducible rfl)
                    try simp only [Act.put, List.setIfInBounds_toArray, List.set_cons_zero, List.set_cons_succ]
                    refine Left.pure (i := 4) (v := ?va12_4) rfl (by kernel_rfl) (fun _ _ _ h => h) (Or.inr hS) (Or.inl ⟨by kernel_rfl, fun w _ => ?hya12_4⟩) ?resta12_4
                    case hya12_4 => (go_simp; try with_reducible rfl)
                    try simp only [Act.put, List.setIfInBounds_toArray, List.set_cons_zero, List.set_cons_succ]
                    refine Left.pure (i := 5) (v := ?va12_5) rfl (by kernel_rfl) (fun _ _ _ h => h) (Or.inr hS) (Or.inl ⟨by kernel_rfl, fun w _ => ?hya12_5⟩) ?resta12_5
                    case hya12_5 => (go_simp; try with_reducible rfl)
                    try simp only [Act.put, List.setIfInBounds_toArray, List.set_cons_zero, List.set_cons_succ]
                    refine Left.pure (i := 6) (v := ?va12_6) rfl (by kernel_rfl) (fun _ _ _ h => h) (Or.inr hS) (Or.inl ⟨by kernel_rfl, fun w _ => ?hya12_6⟩) ?resta12_6
                    case hya12_6 => (go_simp; try with_reducible rfl)
                    try simp only [Act.put, List.setIfInBounds_toArray, List.set_cons_zero, List.set_cons_succ]
                    refine Left.pure (i := 7) (v := ?va12_7) rfl (by kernel_rfl) (fun _ _ _ h => h) (Or.inr hS) (Or.inl ⟨by kernel_rfl, fun w _ => ?hya12_7⟩) ?resta12_7
                    case hya12_7 => (go_simp; try with_reducible rfl)
                    try simp only [Act.put, List.setIfInBounds_toArray, List.set_cons_zero, List.set_cons_succ]
                    refine Left.take (i := 8) (v := ?va12_8) rfl (by kernel_rfl) (fun _ _ _ h => h) hS (Or.inl ⟨by kernel_rfl, fun w hSw => ?hya12_8⟩) ?resta12_8
                    case hya12_8 => ((try dsimp only at hSw); go_simp; try with_reducible rfl)
                    try simp only [Act.put, List.setIfInBounds_toArray, List.set_cons_zero, List.set_cons_succ]
                    refine Left.pure (i := 9) (v := ?va12_9) rfl (by kernel_rfl) (fun _ _ _ h => h) (Or.inr hS) (Or.inl ⟨by kernel_rfl, fun w _ => ?hya12_9⟩) ?resta12_9
                    case hya12_9 => (go_simp; try with_reducible rfl)
                    try simp only [Act.put, List.setIfInBounds_toArray, List.set_cons_zero, List.set_cons_succ]
                    refine Left.pure (i := 10) (v := ?va12_10) rfl (by kernel_rfl) (fun _ _ _ h => h) (Or.inr hS) (Or.inl ⟨by kernel_rfl, fun w _ => ?hya12_10⟩) ?resta12_10
                    case hya12_10 => (go_simp; try with_reducible rfl)
                    try simp only [Act.put, List.setIfInBounds_toArray, List.set_cons_zero, List.set_cons_succ]
                    refine Left.take (i := 11) (v := ?va12_11) rfl (by kernel_rfl) (fun _ _ _ h => h) hS (Or.inl ⟨by kernel_rfl, fun w hSw => ?hya12_11⟩) ?resta12_11
                    case hya12_11 => ((try dsimp only at hSw); go_simp; try with_reducible rfl)
                    try simp only [Act.put, List.setIfInBounds_toArray, List.set_cons_zero, List.set_cons_succ]
                    refine Left.pure (i := 12) (v := ?va12_12) rfl (by kernel_rfl) (fun _ _ _ h => h) (Or.inr hS) (Or.inl ⟨by kernel_rfl, fun w _ => ?hya12_12⟩) ?resta12_12
                    case hya12_12 => (go_simp; try with_reducible rfl)
                    try simp only [Act.put, List.setIfInBounds_toArray, List.set_cons_zero, List.set_cons_succ]
                    refine Left.take (i := 13) (v := ?va12_13) rfl (by kernel_rfl) (fun _ _ _ h => h) hS (Or.inl ⟨by kernel_rfl, fun w hSw => ?hya12_13⟩) ?resta12_13
                    case hya12_13 => ((try dsimp only at hSw); go_simp; try with_reducible rfl)
                    try simp only [Act.put, List.setIfInBounds_toArray, List.set_cons_zero, List.set_cons_succ]
                    refine Left.pure (i := 14) (v := ?va12_14) rfl (by kernel_rfl) (fun _ _ _ h => h) (Or.inr hS) (Or.inl ⟨by kernel_rfl, fun w _ => ?hya12_14⟩) ?resta12_14
                    case hya12_14 => (go_simp; try with_reducible rfl)
                    try simp only [Act.put, List.setIfInBounds_toArray, List.set_cons_zero, List.set_cons_succ]
                    refine Left.pure (i := 15) (v := ?va12_15) rfl (by kernel_rfl) (fun _ _ _ h => h) (Or.inr hS) (Or.inl ⟨by kernel_rfl, fun w _ => ?hya12_15⟩) ?resta12_15
                    case hya12_15 => (go_simp; try with_reducible rfl)
                    try simp only [Act.put, List.setIfInBounds_toArray, List.set_cons_zero, List.set_cons_succ]
                    refine Left.run (i := 16) rfl (by kernel_rfl) (fun K hK => ?_)
                    have f1 := L4.out.at1.ls_frozen (o5 + c)
                    have d1 := cx.out _ _ L4.out
                    go_simp
                    refine hK.out _ _ (Or.inl (by kernel_rfl)) ?_
                    clear hK K
                    try simp only [Act.put, List.setIfInBounds_toArray, List.set_cons_zero, List.set_cons_succ]
                    refine Left.done (by kernel_rfl) ?_ _
                    have L5 := L4.out.at1.ls_set rfl c hcN.out v (.int .i64 v) rfl
                    rw [← hra.out] at L5
                    clear f1 d1
                    go_wp2_with fail
                    go_meet
                    case rel =>
                      have L6 := RefP.mk_ (r := r2.rise c v) L5.at1
                      exact Lib.hid L6.at2.tail
                  · rw [hmx] at hra
                    replace hmx := Lib.hid hmx
                    have cx : Hid (∀ w' R', Hs w0 w' (Blk p (.cells #[.slice (some ⟨g5, o5, none⟩) N c5, .int .u64 r2.last, .int .u64 r2.under, .bool r2.over, .slice Ac r2.come.length cc, .slice Ak r2.cap.length ck] 62) :: Ls (Enc.num .i64) 2 (.slice (some ⟨g5, o5, none⟩) N c5) r2.m :: R') → w'.cell? ⟨g5, o5 + c, none⟩ = some (.int .i64 x)) := fun w' R' h => by have := h.at1.ls_rd.cell hx.out 0 rfl; simpa [Enc.num] using this
                    have L4 := L3.out.drew
                    clear L3
                    replace L4 := Lib.hid L4
                    skip
                    refine wp_region_left (S := fun w' : World => w'.cell? ⟨p, 0, none⟩ = some (.slice (some ⟨g5, o5, none⟩) N c5) ∧ w'.cell? ⟨g5, o5 + c, none⟩ = some (.int .i64 x) ∧ w'.cell? ⟨bx, 4, none⟩ = some (.int .i64 v)) 16 mixed ?_
                    have hS : (fun w' : World => w'.cell? ⟨p, 0, none⟩ = some (.slice (some ⟨g5, o5, none⟩) N c5) ∧ w'.cell? ⟨g5, o5 + c, none⟩ = some (.int .i64 x) ∧ w'.cell? ⟨bx, 4, none⟩ = some (.int .i64 v)) w6.drew := by exact ⟨L4.out.cellOf 0 rfl, cx.out _ _ L4.out, L4.out.at5.cellOf 4 rfl⟩
                    refine Left.pure (i := 0) (v := ?vb12_0) rfl (by kernel_rfl) (fun _ _ _ h => h) (Or.inr hS) (Or.inl ⟨by kernel_rfl, fun w _ => ?hyb12_0⟩) ?restb12_0
                    case hyb12_0 => (go_simp; try with_reducible rfl)
                    try simp only [Act.put, List.setIfInBounds_toArray, List.set_cons_zero, List.set_cons_succ]
                    refine Left.pure (i := 1) (v := ?vb12_1) rfl (by kernel_rfl) (fun _ _ _ h => h) (Or.inr hS) (Or.inl ⟨by kernel_rfl, fun w _ => ?hyb12_1⟩) ?restb12_1
                    case hyb12_1 => (go_simp; try with_reducible rfl)
                    try simp only [Act.put, List.setIfInBounds_toArray, List.set_cons_zero, List.set_cons_succ]
                    refine Left.pure (i := 2) (v := ?vb12_2) rfl (by kernel_rfl) (fun _ _ _ h => h) (Or.inr hS) (Or.inl ⟨by kernel_rfl, fun w _ => ?hyb12_2⟩) ?restb12_2
                    case hyb12_2 => (go_simp; try with_reducible rfl)
                    try simp only [Act.put, List.setIfInBounds_toArray, List.set_cons_zero, List.set_cons_succ]
                    refine Left.take (i := 3) (v := ?vb12_3) rfl (by kernel_rfl) (fun _ _ _ h => h) hS (Or.inl ⟨by kernel_rfl, fun w hSw => ?hyb12_3⟩) ?restb12_3
                    case hyb12_3 => ((try dsimp only at hSw); go_simp; try with_reducible rfl)
                    try simp only [Act.put, List.setIfInBounds_toArray, List.set_cons_zero, List.set_cons_succ]
                    refine Left.pure (i := 4) (v := ?vb12_4) rfl (by kernel_rfl) (fun _ _ _ h => h) (Or.inr hS) (Or.inl ⟨by kernel_rfl, fun w _ => ?hyb12_4⟩) ?restb12_4
                    case hyb12_4 => (go_simp; try with_reducible rfl)
                    try simp only [Act.put, List.setIfInBounds_toArray, List.set_cons_zero, List.set_cons_succ]
                    refine Left.pure (i := 5) (v := ?vb12_5) rfl (by kernel_rfl) (fun _ _ _ h => h) (Or.inr hS) (Or.inl ⟨by kernel_rfl, fun w _ => ?hyb12_5⟩) ?restb12_5
                    case hyb12_5 => (go_simp; try with_reducible rfl)
                    try simp only [Act.put, List.setIfInBounds_toArray, List.set_cons_zero, List.set_cons_succ]
                    refine Left.pure (i := 6) (v := ?vb12_6) rfl (by kernel_rfl) (fun _ _ _ h => h) (Or.inr hS) (Or.inl ⟨by kernel_rfl, fun w _ => ?hyb12_6⟩) ?restb12_6
                    case hyb12_6 => (go_simp; try with_reducible rfl)
                    try simp only [Act.put, List.setIfInBounds_toArray, List.set_cons_zero, List.set_cons_succ]
                    refine Left.pure (i := 7) (v := ?vb12_7) rfl (by kernel_rfl) (fun _ _ _ h => h) (Or.inr hS) (Or.inl ⟨by kernel_rfl, fun w _ => ?hyb12_7⟩) ?restb12_7
                    case hyb12_7 => (go_simp; try with_reducible rfl)
                    try simp only [Act.put, List.setIfInBounds_toArray, List.set_cons_zero, List.set_cons_succ]
                    refine Left.take (i := 8) (v := ?vb12_8) rfl (by kernel_rfl) (fun _ _ _ h => h) hS (Or.inl ⟨by kernel_rfl, fun w hSw => ?hyb12_8⟩) ?restb12_8
                    case hyb12_8 => ((try dsimp only at hSw); go_simp; try with_reducible rfl)
                    try simp only [Act.put, List.setIfInBounds_toArray, List.set_cons_zero, List.set_cons_succ]
                    refine Left.pure (i := 9) (v := ?vb12_9) rfl (by kernel_rfl) (fun _ _ _ h => h) (Or.inr hS) (Or.inl ⟨by kernel_rfl, fun w _ => ?hyb12_9⟩) ?restb12_9
                    case hyb12_9 => (go_simp; try with_reducible rfl)
                    try simp only [Act.put, List.setIfInBounds_toArray, List.set_cons_zero, List.set_cons_succ]
                    refine Left.pure (i := 10) (v := ?vb12_10) rfl (by kernel_rfl) (fun _ _ _ h => h) (Or.inr hS) (Or.inl ⟨by kernel_rfl, fun w _ => ?hyb12_10⟩) ?restb12_10
                    case hyb12_10 => (go_simp; try with_reducible rfl)
                    try simp only [Act.put, List.setIfInBounds_toArray, List.set_cons_zero, List.set_cons_succ]
                    refine Left.take (i := 11) (v := ?vb12_11) rfl (by kernel_rfl) (fun _ _ _ h => h) hS (Or.inl ⟨by kernel_rfl, fun w hSw => ?hyb12_11⟩) ?restb12_11
                    case hyb12_11 => ((try dsimp only at hSw); go_simp; try with_reducible rfl)
                    try simp only [Act.put, List.setIfInBounds_toArray, List.set_cons_zero, List.set_cons_succ]
                    refine Left.pure (i := 12) (v := ?vb12_12) rfl (by kernel_rfl) (fun _ _ _ h => h) (Or.inr hS) (Or.inl ⟨by kernel_rfl, fun w _ => ?hyb12_12⟩) ?restb12_12
                    case hyb12_12 => (go_simp; try with_reducible rfl)
                    try simp only [Act.put, List.setIfInBounds_toArray, List.set_cons_zero, List.set_cons_succ]
                    refine Left.take (i := 13) (v := ?vb12_13) rfl (by kernel_rfl) (fun _ _ _ h => h) hS (Or.inl ⟨by kernel_rfl, fun w hSw => ?hyb12_13⟩) ?restb12_13
                    case hyb12_13 => ((try dsimp only at hSw); go_simp; try with_reducible rfl)
                    try simp only [Act.put, List.setIfInBounds_toArray, List.set_cons_zero, List.set_cons_succ]
                    refine Left.pure (i := 14) (v := ?vb12_14) rfl (by kernel_rfl) (fun _ _ _ h => h) (Or.inr hS) (Or.inl ⟨by kernel_rfl, fun w _ => ?hyb12_14⟩) ?restb12_14
                    case hyb12_14 => (go_simp; try with_reducible rfl)
                    try simp only [Act.put, List.setIfInBounds_toArray, List.set_cons_zero, List.set_cons_succ]
                    refine Left.pure (i := 15) (v := ?vb12_15) rfl (by kernel_rfl) (fun _ _ _ h => h) (Or.inr hS) (Or.inl ⟨by kernel_rfl, fun w _ => ?hyb12_15⟩) ?restb12_15
                    case hyb12_15 => (go_simp; try with_reducible rfl)
                    try simp only [Act.put, List.setIfInBounds_toArray, List.set_cons_zero, List.set_cons_succ]
                    refine Left.run (i := 16) rfl (by kernel_rfl) (fun K hK => ?_)
                    have f1 := L4.out.at1.ls_frozen (o5 + c)
                    have d1 := cx.out _ _ L4.out
                    go_simp
                    refine hK.out _ _ (Or.inl (by kernel_rfl)) ?_
                    clear hK K
                    try simp only [Act.put, List.setIfInBounds_toArray, List.set_cons_zero, List.set_cons_succ]
                    refine Left.done (by kernel_rfl) ?_ _
                    have L5 := L4.out.at1.ls_set rfl c hcN.out x (.int .i64 x) rfl
                    rw [← hra.out] at L5
                    clear f1 d1
                    go_wp2_with fail
                    go_meet
                    case rel =>
                      have L6 := RefP.mk_ (r := r2.rise c v) L5.at1
                      exact Lib.hid L6.at2.tail
                case rest =>
                  clear L3 hra hx
                  have K := hcut
                  clear hcut
                  go_wp2_with fail
                  refine (rmark26 p _ wc w0 _ K.out hne3.out).mono ?_
                  rw [hl3.out]
                  rintro e w7 ⟨rfl, rfl⟩
                  replace K := Lib.hid K.out.at1
                  by_cases hlt : l0 < l1
                  · have hd : decide (l0 < l1) = true := by simpa using hlt
                    rw [if_pos hlt] at hst
                    clear hlt
                    go_wp2_with fail
                    refine (rmark26 p _ _ w0 _ K.out.at1 hne3.out).mono ?_
                    rw [hl3.out]
                    rintro e w8 ⟨rfl, rfl⟩
                    have b0 : wc.cell? ⟨br, 0, none⟩ = some (.int .i64 0) := K.out.cellOf 0 rfl
                    have b1 : wc.cell? ⟨br, 1, none⟩ = some (.int .i64 0) := K.out.cellOf 1 rfl
                    have b2 : wc.cell? ⟨br, 2, none⟩ = some (.int .i64 0) := K.out.cellOf 2 rfl
                    have b3 : wc.cell? ⟨br, 3, none⟩ = some (.int .i64 0) := K.out.cellOf 3 rfl
                    have b4 : wc.cell? ⟨br, 4, none⟩ = some (.int .i64 0) := K.out.cellOf 4 rfl
                    have b5 : wc.cell? ⟨br, 5, none⟩ = some (.int .u64 0) := K.out.cellOf 5 rfl
                    have b6 : wc.cell? ⟨br, 6, none⟩ = some (.int .u64 0) := K.out.cellOf 6 rfl
                    have g0 := K.out.frozenOf 0
                    have g1 := K.out.frozenOf 1
                    have g2 := K.out.frozenOf 2
                    have g3 := K.out.frozenOf 3
                    have g4 := K.out.frozenOf 4
                    have g5 := K.out.frozenOf 5
                    have g6 := K.out.frozenOf 6
                    go_wp2_with fail
                    have K9 := (((((((K.out.setCell (i := 0) (.int .i64 2)).setCell (i := 1) (.int .i64 0)).setCell (i := 2) (.int .i64 0)).setCell (i := 3) (.int .i64 0)).setCell (i := 4) (.int .i64 l1)).setCell (i := 5) (.int .u64 0)).setCell (i := 6) (.int .u64 0))
                    generalize World.setCell _ _ _ = w9 at K9 ⊢
                    simp only [List.setIfInBounds_toArray, List.set_cons_zero, List.set_cons_succ] at K9
                    have q0 : w9.cell? ⟨br, 0, none⟩ = some (.int .i64 2) := K9.cellOf 0 rfl
                    have q1 : w9.cell? ⟨br, 1, none⟩ = some (.int .i64 0) := K9.cellOf 1 rfl
                    have q2 : w9.cell? ⟨br, 2, none⟩ = some (.int .i64 0) := K9.cellOf 2 rfl
                    have q3 : w9.cell? ⟨br, 3, none⟩ = some (.int .i64 0) := K9.cellOf 3 rfl
                    have q4 : w9.cell? ⟨br, 4, none⟩ = some (.int .i64 l1) := K9.cellOf 4 rfl
                    have q5 : w9.cell? ⟨br, 5, none⟩ = some (.int .u64 0) := K9.cellOf 5 rfl
                    have q6 : w9.cell? ⟨br, 6, none⟩ = some (.int .u64 0) := K9.cellOf 6 rfl
                    rw [ht.out, hst.out]
                    refine bodyPost_ret (v := .tuple #[stv (2, (0, 0, 0), l1, 0, 0), .int .i64 0]) ?_ rfl ⟨rfl, K9.tail⟩
                    simp [results, Try.results25, go_sem, q0, q1, q2, q3, q4, q5, q6, stv, noStep]
                  · have hd : decide (l0 < l1) = false := by simpa using hlt
                    rw [if_neg hlt] at hst
                    clear hlt
                    have b0 : wc.cell? ⟨br, 0, none⟩ = some (.int .i64 0) := K.out.cellOf 0 rfl
                    have b1 : wc.cell? ⟨br, 1, none⟩ = some (.int .i64 0) := K.out.cellOf 1 rfl
                    have b2 : wc.cell? ⟨br, 2, none⟩ = some (.int .i64 0) := K.out.cellOf 2 rfl
                    have b3 : wc.cell? ⟨br, 3, none⟩ = some (.int .i64 0) := K.out.cellOf 3 rfl
                    have b4 : wc.cell? ⟨br, 4, none⟩ = some (.int .i64 0) := K.out.cellOf 4 rfl
                    have b5 : wc.cell? ⟨br, 5, none⟩ = some (.int .u64 0) := K.out.cellOf 5 rfl
                    have b6 : wc.cell? ⟨br, 6, none⟩ = some (.int .u64 0) := K.out.cellOf 6 rfl
                    have g0 := K.out.frozenOf 0
                    have g1 := K.out.frozenOf 1
                    have g2 := K.out.frozenOf 2
                    have g3 := K.out.frozenOf 3
                    have g4 := K.out.frozenOf 4
                    have g5 := K.out.frozenOf 5
                    have g6 := K.out.frozenOf 6
                    go_wp2_with fail
                    have K9 := (((((((K.out.setCell (i := 0) (.int .i64 0)).setCell (i := 1) (.int .i64 0)).setCell (i := 2) (.int .i64 0)).setCell (i := 3) (.int .i64 0)).setCell (i := 4) (.int .i64 0)).setCell (i := 5) (.int .u64 0)).setCell (i := 6) (.int .u64 0))
                    generalize World.setCell _ _ _ = w9 at K9 ⊢
                    simp only [List.setIfInBounds_toArray, List.set_cons_zero, List.set_cons_succ] at K9
                    have q0 : w9.cell? ⟨br, 0, none⟩ = some (.int .i64 0) := K9.cellOf 0 rfl
                    have q1 : w9.cell? ⟨br, 1, none⟩ = some (.int .i64 0) := K9.cellOf 1 rfl
                    have q2 : w9.cell? ⟨br, 2, none⟩ = some (.int .i64 0) := K9.cellOf 2 rfl
                    have q3 : w9.cell? ⟨br, 3, none⟩ = some (.int .i64 0) := K9.cellOf 3 rfl
                    have q4 : w9.cell? ⟨br, 4, none⟩ = some (.int .i64 0) := K9.cellOf 4 rfl
                    have q5 : w9.cell? ⟨br, 5, none⟩ = some (.int .u64 0) := K9.cellOf 5 rfl
                    have q6 : w9.cell? ⟨br, 6, none⟩ = some (.int .u64 0) := K9.cellOf 6 rfl
                    rw [ht.out, hst.out]
                    refine bodyPost_ret (v := .tuple #[stv ((0, (0, 0, 0), 0, 0, 0)), .int .i64 0]) ?_ rfl ⟨rfl, K9.tail⟩
                    simp [results, Try.results25, go_sem, q0, q1, q2, q3, q4, q5, q6, stv, noStep]
              · have e2 : (f.1 == 2) = false := by rw [beq_eq_false_iff_ne]; exact h2
                have hrr := h3r.out h1 h2
                subst hrr
                by_cases h3 : f.1 = 3
                · have e3 : (f.1 == 3) = true := by rw [beq_iff_eq]; exact h3
                  have ht : Hid (r2.take c f = ((r2.barrier c f.2.2.2.1 f.2.2.2.2).1, (r2.barrier c f.2.2.2.1 f.2.2.2.2).2, 0)) := by show _ = _; rw [hb.out]; unfold Rf.takeIn; rw [if_neg h1, if_neg h2, if_pos h3]
                  clear h1 h2 h3 h3r hb hr2 hm2
                  have y1 : wc.cell? ⟨bx, 1, none⟩ = some (.int .i64 f.2.1.1) := K.out.at1.cellOf 1 rfl
                  have y2 : wc.cell? ⟨bx, 2, none⟩ = some (.int .i64 f.2.1.2.1) := K.out.at1.cellOf 2 rfl
                  have y3 : wc.cell? ⟨bx, 3, none⟩ = some (.int .i64 f.2.1.2.2) := K.out.at1.cellOf 3 rfl
                  have y4 : wc.cell? ⟨bx, 4, none⟩ = some (.int .i64 f.2.2.1) := K.out.at1.cellOf 4 rfl
                  have y5 : wc.cell? ⟨bx, 5, none⟩ = some (.int .u64 f.2.2.2.1) := K.out.at1.cellOf 5 rfl
                  have y6 : wc.cell? ⟨bx, 6, none⟩ = some (.bool f.2.2.2.2) := K.out.at1.cellOf 6 rfl
                  go_wp2_with fail
                  refine (rbarrier35 p c f r2 wc w0 _ K.out.at2 hcn'.out hok.out h64.out).mono ?_
                  rintro e w4 ⟨rfl, K4⟩
                  obtain ⟨⟨s2, x0, ⟨x1, x2, x3⟩, x4, x5, x6⟩, hq⟩ : ∃ q, r2.barrier c f.2.2.2.1 f.2.2.2.2 = q := ⟨_, rfl⟩
                  rw [hq] at ht K4 ⊢
                  clear hq K y0 y1 y2 y3 y4 y5 y6
                  unfold stv
                  dsimp only
                  have b0 : w4.cell? ⟨br, 0, none⟩ = some (.int .i64 0) := K4.at1.cellOf 0 rfl
                  have b1 : w4.cell? ⟨br, 1, none⟩ = some (.int .i64 0) := K4.at1.cellOf 1 rfl
                  have b2 : w4.cell? ⟨br, 2, none⟩ = some (.int .i64 0) := K4.at1.cellOf 2 rfl
                  have b3 : w4.cell? ⟨br, 3, none⟩ = some (.int .i64 0) := K4.at1.cellOf 3 rfl
                  have b4 : w4.cell? ⟨br, 4, none⟩ = some (.int .i64 0) := K4.at1.cellOf 4 rfl
                  have b5 : w4.cell? ⟨br, 5, none⟩ = some (.int .u64 0) := K4.at1.cellOf 5 rfl
                  have b6 : w4.cell? ⟨br, 6, none⟩ = some (.int .u64 0) := K4.at1.cellOf 6 rfl
                  have g0 := K4.at1.frozenOf 0
                  have g1 := K4.at1.frozenOf 1
                  have g2 := K4.at1.frozenOf 2
                  have g3 := K4.at1.frozenOf 3
                  have g4 := K4.at1.frozenOf 4
                  have g5 := K4.at1.frozenOf 5
                  have g6 := K4.at1.frozenOf 6
                  go_wp2_with fail
                  have K9 := (((((((K4.at1.setCell (i := 0) (.int .i64 x0)).setCell (i := 1) (.int .i64 x1)).setCell (i := 2) (.int .i64 x2)).setCell (i := 3) (.int .i64 x3)).setCell (i := 4) (.int .i64 x4)).setCell (i := 5) (.int .u64 x5)).setCell (i := 6) (.int .u64 x6))
                  generalize World.setCell _ _ _ = w9 at K9 ⊢
                  simp only [List.setIfInBounds_toArray, List.set_cons_zero, List.set_cons_succ] at K9
                  have q0 : w9.cell? ⟨br, 0, none⟩ = some (.int .i64 x0) := K9.cellOf 0 rfl
                  have q1 : w9.cell? ⟨br, 1, none⟩ = some (.int .i64 x1) := K9.cellOf 1 rfl
                  have q2 : w9.cell? ⟨br, 2, none⟩ = some (.int .i64 x2) := K9.cellOf 2 rfl
                  have q3 : w9.cell? ⟨br, 3, none⟩ = some (.int .i64 x3) := K9.cellOf 3 rfl
                  have q4 : w9.cell? ⟨br, 4, none⟩ = some (.int .i64 x4) := K9.cellOf 4 rfl
                  have q5 : w9.cell? ⟨br, 5, none⟩ = some (.int .u64 x5) := K9.cellOf 5 rfl
                  have q6 : w9.cell? ⟨br, 6, none⟩ = some (.int .u64 x6) := K9.cellOf 6 rfl
                  rw [ht.out]
                  refine bodyPost_ret (v := .tuple #[stv (x0, (x1, x2, x3), x4, x5, x6), .int .i64 0]) ?_ rfl ⟨rfl, K9.tail.at1.tail⟩
                  simp [results, Try.results25, go_sem, q0, q1, q2, q3, q4, q5, q6, stv, noStep]
                · have e3 : (f.1 == 3) = false := by rw [beq_eq_false_iff_ne]; exact h3
                  have ht : Hid (r2.take c f = (r2, (0, (0, 0, 0), 0, 0, 0), 0)) := by show _ = _; rw [hb.out]; unfold Rf.takeIn; rw [if_neg h1, if_neg h2, if_neg h3]; rfl
                  clear h1 h2 h3 h3r hb hr2 hm2
                  have b0 : wc.cell? ⟨br, 0, none⟩ = some (.int .i64 0) := K.out.cellOf 0 rfl
                  have b1 : wc.cell? ⟨br, 1, none⟩ = some (.int .i64 0) := K.out.cellOf 1 rfl
                  have b2 : wc.cell? ⟨br, 2, none⟩ = some (.int .i64 0) := K.out.cellOf 2 rfl
                  have b3 : wc.cell? ⟨br, 3, none⟩ = some (.int .i64 0) := K.out.cellOf 3 rfl
                  have b4 : wc.cell? ⟨br, 4, none⟩ = some (.int .i64 0) := K.out.cellOf 4 rfl
                  have b5 : wc.cell? ⟨br, 5, none⟩ = some (.int .u64 0) := K.out.cellOf 5 rfl
                  have b6 : wc.cell? ⟨br, 6, none⟩ = some (.int .u64 0) := K.out.cellOf 6 rfl
                  have g0 := K.out.frozenOf 0
                  have g1 := K.out.frozenOf 1
                  have g2 := K.out.frozenOf 2
                  have g3 := K.out.frozenOf 3
                  have g4 := K.out.frozenOf 4
                  have g5 := K.out.frozenOf 5
                  have g6 := K.out.frozenOf 6
                  go_wp2_with fail
                  have K9 := (((((((K.out.setCell (i := 0) (.int .i64 0)).setCell (i := 1) (.int .i64 0)).setCell (i := 2) (.int .i64 0)).setCell (i := 3) (.int .i64 0)).setCell (i := 4) (.int .i64 0)).setCell (i := 5) (.int .u64 0)).setCell (i := 6) (.int .u64 0))
                  generalize World.setCell _ _ _ = w9 at K9 ⊢
                  simp only [List.setIfInBounds_toArray, List.set_cons_zero, List.set_cons_succ] at K9
                  have q0 : w9.cell? ⟨br, 0, none⟩ = some (.int .i64 0) := K9.cellOf 0 rfl
                  have q1 : w9.cell? ⟨br, 1, none⟩ = some (.int .i64 0) := K9.cellOf 1 rfl
                  have q2 : w9.cell? ⟨br, 2, none⟩ = some (.int .i64 0) := K9.cellOf 2 rfl
                  have q3 : w9.cell? ⟨br, 3, none⟩ = some (.int .i64 0) := K9.cellOf 3 rfl
                  have q4 : w9.cell? ⟨br, 4, none⟩ = some (.int .i64 0) := K9.cellOf 4 rfl
                  have q5 : w9.cell? ⟨br, 5, none⟩ = some (.int .u64 0) := K9.cellOf 5 rfl
                  have q6 : w9.cell? ⟨br, 6, none⟩ = some (.int .u64 0) := K9.cellOf 6 rfl
                  rw [ht.out]
                  refine bodyPost_ret (v := .tuple #[stv ((0, (0, 0, 0), 0, 0, 0)), .int .i64 0]) ?_ rfl ⟨rfl, K9.tail.tail⟩
                  simp [results, Try.results25, go_sem, q0, q1, q2, q3, q4, q5, q6, stv, noStep]

end Go.Proofs.Ytlhgmfdmkckmhaa

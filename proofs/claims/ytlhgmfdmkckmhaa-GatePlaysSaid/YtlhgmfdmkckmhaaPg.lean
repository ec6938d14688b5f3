import Derived.Test.YtlhgmfdmkckmhaaPf
import Derived.Test.YtlhgmfdmkckmhaaProg
import Derived.Test.YtlhgmfdmkckmhaaLs
import Derived.Outline
import Derived.StillTailTactics
import Derived.Deep.DeepCutAuto
import Derived.Deep.CutBlock
import Derived.Deep.LoopGhost
import Derived.Deep.QuietTactic
import Derived.BigQuiet
import Derived.Deep.RegionHeld3
import Derived.Deep.RegionLaw
set_option linter.unusedVariables false
set_option linter.unusedSimpArgs false
namespace Go.Proofs.Ytlhgmfdmkckmhaa
open Go.RowKit
def Gt.takeIn (s : Gt) (ch : Nat) (f : Fr) : Gt × Stp :=
  if f.1 = 1 then (s.capture ch f, (1, f.2.1, 0, 0, 0))
  else if f.1 = 2 then ((s.capture ch f).rise ch f.2.2.1, (s.capture ch f).riseS ch f.2.2.1)
  else if f.1 = 3 then s.barrier ch f.2.2.2.1 f.2.2.2.2
  else (s, noStep)
def Gt.take (s : Gt) (ch : Int) (f : Fr) : Gt × Stp × Int :=
  if 0 ≤ ch ∧ ch < s.marks.length ∧ s.blk.getD ch.toNat false = false then ((s.takeIn ch.toNat f).1, (s.takeIn ch.toNat f).2, 0) else (s, noStep, 150)
/-- The lists of a gate are of one length. -/
def Gt.Ok (s : Gt) (N : Nat) : Prop := s.marks.length = N ∧ s.came.length = N ∧ s.blk.length = N
set_option maxRecDepth 100000 in
set_option maxHeartbeats 2000000 in
theorem take14 (p : Nat) (ch : Int) (f : Fr) (s : Gt) (N : Nat) (w w0 : World) (R : List HP) (H : Hs w0 w (GateP p s :: R)) (hok : s.Ok N) (hbd : s.cap.length ≤ 1000000) :
    Calls Try.prog 14 #[.pointer (some ⟨p, 0, none⟩), .int .i64 ch, frv f] w fun e w' => e = .returned (.tuple #[stv (s.take ch f).2.1, .int .i64 (s.take ch f).2.2]) ∧ Hs w0 w' (GateP p (s.take ch f).1 :: R) := by
  have K := (H.alloc (.cells (frc f) 31)).alloc (.cells #[.int .i64 0, .int .i64 0, .int .i64 0, .int .i64 0, .int .i64 0, .int .u64 0, .int .u64 0] 38)
  rw [show (w.alloc (.cells (frc f) 31)).heap.size = w.heap.size + 1 from Array.size_push ..] at K
  unfold frv
  replace K := Lib.hid K
  clear H
  have hl : Hid (s.blk.length = s.marks.length ∧ s.came.length = s.marks.length) := by obtain ⟨h1, h2, h3⟩ := hok; exact ⟨by omega, by omega⟩
  clear hok
  replace hbd := Lib.hid hbd
  go_enter Try.func14, Try.ntmps14
  go_upto_region 1 with (fail)
  unfold frc at K
  generalize World.alloc _ _ = w1 at K ⊢
  generalize w.heap.size + 1 = br at K ⊢
  generalize w.heap.size = bx at K ⊢
  have k0 : ∃ Am cm, w1.cell? ⟨p, 0, none⟩ = some (.slice Am s.marks.length cm) := by
    obtain ⟨Am, cm, Ac, cc, Ab, cb, Ak, ck, L⟩ := GateP.open_ K.out.at2
    exact ⟨Am, cm, L.cellOf 0 rfl⟩
  obtain ⟨Am0, cm0, k0⟩ := k0
  have hcm : True := trivial
  rcases (show ch < 0 ∨ (s.marks.length : Int) ≤ ch ∨ (0 ≤ ch ∧ ch < s.marks.length) by omega) with h | h | ⟨h, h'⟩
  · have hb : Hid (s.take ch f = (s, noStep, 150)) := by show _ = _; unfold Gt.take; rw [if_neg (by omega)]
    have b0 : w1.cell? ⟨br, 0, none⟩ = some (.int .i64 0) := K.out.cellOf 0 rfl
    have b1 : w1.cell? ⟨br, 1, none⟩ = some (.int .i64 0) := K.out.cellOf 1 rfl
    have b2 : w1.cell? ⟨br, 2, none⟩ = some (.int .i64 0) := K.out.cellOf 2 rfl
    have b3 : w1.cell? ⟨br, 3, none⟩ = some (.int .i64 0) := K.out.cellOf 3 rfl
    have b4 : w1.cell? ⟨br, 4, none⟩ = some (.int .i64 0) := K.out.cellOf 4 rfl
    have b5 : w1.cell? ⟨br, 5, none⟩ = some (.int .u64 0) := K.out.cellOf 5 rfl
    have b6 : w1.cell? ⟨br, 6, none⟩ = some (.int .u64 0) := K.out.cellOf 6 rfl
    have g0 := K.out.frozenOf 0
    have g1 := K.out.frozenOf 1
    have g2 := K.out.frozenOf 2
    have g3 := K.out.frozenOf 3
    have g4 := K.out.frozenOf 4
    have g5 := K.out.frozenOf 5
    have g6 := K.out.frozenOf 6
    clear hcm hl
    go_wp2_with fail
    have K9 := (((((((K.out.setCell (i := 0) (.int .i64 0)).setCell (i := 1) (.int .i64 0)).setCell (i := 2) (.int .i64 0)).setCell (i := 3) (.int .i64 0)).setCell (i := 4) (.int .i64 0)).setCell (i := 5) (.int .u64 0)).setCell (i := 6) (.int .u64 0))
    generalize World.setCell _ _ _ = w9 at K9 ⊢
    simp only [List.setIfInBounds_toArray, List.set_cons_zero, List.set_cons_succ] at K9
    have r0 : w9.cell? ⟨br, 0, none⟩ = some (.int .i64 0) := K9.cellOf 0 rfl
    have r1 : w9.cell? ⟨br, 1, none⟩ = some (.int .i64 0) := K9.cellOf 1 rfl
    have r2 : w9.cell? ⟨br, 2, none⟩ = some (.int .i64 0) := K9.cellOf 2 rfl
    have r3 : w9.cell? ⟨br, 3, none⟩ = some (.int .i64 0) := K9.cellOf 3 rfl
    have r4 : w9.cell? ⟨br, 4, none⟩ = some (.int .i64 0) := K9.cellOf 4 rfl
    have r5 : w9.cell? ⟨br, 5, none⟩ = some (.int .u64 0) := K9.cellOf 5 rfl
    have r6 : w9.cell? ⟨br, 6, none⟩ = some (.int .u64 0) := K9.cellOf 6 rfl
    rw [hb.out]
    refine bodyPost_ret (v := .tuple #[stv noStep, .int .i64 150]) ?_ rfl ⟨rfl, K9.tail.tail⟩
    simp [results, Try.results14, go_sem, r0, r1, r2, r3, r4, r5, r6, stv, noStep]
  · have hb : Hid (s.take ch f = (s, noStep, 150)) := by show _ = _; unfold Gt.take; rw [if_neg (by omega)]
    have h0 : 0 ≤ ch := by omega
    have hd0 : decide (ch < 0) = false := by rw [decide_eq_false_iff_not]; omega
    have b0 : w1.cell? ⟨br, 0, none⟩ = some (.int .i64 0) := K.out.cellOf 0 rfl
    have b1 : w1.cell? ⟨br, 1, none⟩ = some (.int .i64 0) := K.out.cellOf 1 rfl
    have b2 : w1.cell? ⟨br, 2, none⟩ = some (.int .i64 0) := K.out.cellOf 2 rfl
    have b3 : w1.cell? ⟨br, 3, none⟩ = some (.int .i64 0) := K.out.cellOf 3 rfl
    have b4 : w1.cell? ⟨br, 4, none⟩ = some (.int .i64 0) := K.out.cellOf 4 rfl
    have b5 : w1.cell? ⟨br, 5, none⟩ = some (.int .u64 0) := K.out.cellOf 5 rfl
    have b6 : w1.cell? ⟨br, 6, none⟩ = some (.int .u64 0) := K.out.cellOf 6 rfl
    have g0 := K.out.frozenOf 0
    have g1 := K.out.frozenOf 1
    have g2 := K.out.frozenOf 2
    have g3 := K.out.frozenOf 3
    have g4 := K.out.frozenOf 4
    have g5 := K.out.frozenOf 5
    have g6 := K.out.frozenOf 6
    clear hl
    go_wp2_with fail
    have K9 := (((((((K.out.setCell (i := 0) (.int .i64 0)).setCell (i := 1) (.int .i64 0)).setCell (i := 2) (.int .i64 0)).setCell (i := 3) (.int .i64 0)).setCell (i := 4) (.int .i64 0)).setCell (i := 5) (.int .u64 0)).setCell (i := 6) (.int .u64 0))
    generalize World.setCell _ _ _ = w9 at K9 ⊢
    simp only [List.setIfInBounds_toArray, List.set_cons_zero, List.set_cons_succ] at K9
    have r0 : w9.cell? ⟨br, 0, none⟩ = some (.int .i64 0) := K9.cellOf 0 rfl
    have r1 : w9.cell? ⟨br, 1, none⟩ = some (.int .i64 0) := K9.cellOf 1 rfl
    have r2 : w9.cell? ⟨br, 2, none⟩ = some (.int .i64 0) := K9.cellOf 2 rfl
    have r3 : w9.cell? ⟨br, 3, none⟩ = some (.int .i64 0) := K9.cellOf 3 rfl
    have r4 : w9.cell? ⟨br, 4, none⟩ = some (.int .i64 0) := K9.cellOf 4 rfl
    have r5 : w9.cell? ⟨br, 5, none⟩ = some (.int .u64 0) := K9.cellOf 5 rfl
    have r6 : w9.cell? ⟨br, 6, none⟩ = some (.int .u64 0) := K9.cellOf 6 rfl
    rw [hb.out]
    refine bodyPost_ret (v := .tuple #[stv noStep, .int .i64 150]) ?_ rfl ⟨rfl, K9.tail.tail⟩
    simp [results, Try.results14, go_sem, r0, r1, r2, r3, r4, r5, r6, stv, noStep]
  · obtain ⟨c, rfl⟩ := Int.eq_ofNat_of_zero_le h
    have hcl : c < s.blk.length := by have := hl.out; omega
    obtain ⟨x, hx⟩ : ∃ x, s.blk[c]? = some x := ⟨_, List.getElem?_eq_getElem hcl⟩
    obtain ⟨Am, cm, Ac, cc, Ab, cb, Ak, ck, L⟩ := GateP.open_ K.out.at2
    obtain ⟨g, off, rfl⟩ := L.at3.ls_rd.some_ (by omega)
    have k2 : w1.cell? ⟨p, 2, none⟩ = some (.slice (some ⟨g, off, none⟩) s.blk.length cb) := L.cellOf 2 rfl
    have cx : w1.cell? ⟨g, off + c, none⟩ = some (.bool x) := by have := L.at3.ls_rd.cell hx 0 rfl; simpa [Enc.flag] using this
    have hcc := L.at3.ls_rd.caps.2
    have hc1 : (c : Int) < (s.blk.length : Int) := by omega
    have hnd : decide ((c : Int) < 0) = false := by rw [decide_eq_false_iff_not]; omega
    have hgd : decide ((s.marks.length : Int) ≤ (c : Int)) = false := by rw [decide_eq_false_iff_not]; omega
    have hgn : decide (s.marks.length ≤ c) = false := by rw [decide_eq_false_iff_not]; omega
    have hcn : c < s.marks.length := by omega
    cases x with
    | true =>
      have hb : Hid (s.take c f = (s, noStep, 150)) := by show _ = _; unfold Gt.take; rw [if_neg (by rintro ⟨_, _, e⟩; rw [Int.toNat_natCast] at e; simp [List.getD, hx] at e)]
      clear L hx
      have b0 : w1.cell? ⟨br, 0, none⟩ = some (.int .i64 0) := K.out.cellOf 0 rfl
      have b1 : w1.cell? ⟨br, 1, none⟩ = some (.int .i64 0) := K.out.cellOf 1 rfl
      have b2 : w1.cell? ⟨br, 2, none⟩ = some (.int .i64 0) := K.out.cellOf 2 rfl
      have b3 : w1.cell? ⟨br, 3, none⟩ = some (.int .i64 0) := K.out.cellOf 3 rfl
      have b4 : w1.cell? ⟨br, 4, none⟩ = some (.int .i64 0) := K.out.cellOf 4 rfl
      have b5 : w1.cell? ⟨br, 5, none⟩ = some (.int .u64 0) := K.out.cellOf 5 rfl
      have b6 : w1.cell? ⟨br, 6, none⟩ = some (.int .u64 0) := K.out.cellOf 6 rfl
      have g0 := K.out.frozenOf 0
      have g1 := K.out.frozenOf 1
      have g2 := K.out.frozenOf 2
      have g3 := K.out.frozenOf 3
      have g4 := K.out.frozenOf 4
      have g5 := K.out.frozenOf 5
      have g6 := K.out.frozenOf 6
      go_wp2_with fail
      have K9 := (((((((K.out.setCell (i := 0) (.int .i64 0)).setCell (i := 1) (.int .i64 0)).setCell (i := 2) (.int .i64 0)).setCell (i := 3) (.int .i64 0)).setCell (i := 4) (.int .i64 0)).setCell (i := 5) (.int .u64 0)).setCell (i := 6) (.int .u64 0))
      generalize World.setCell _ _ _ = w9 at K9 ⊢
      simp only [List.setIfInBounds_toArray, List.set_cons_zero, List.set_cons_succ] at K9
      have r0 : w9.cell? ⟨br, 0, none⟩ = some (.int .i64 0) := K9.cellOf 0 rfl
      have r1 : w9.cell? ⟨br, 1, none⟩ = some (.int .i64 0) := K9.cellOf 1 rfl
      have r2 : w9.cell? ⟨br, 2, none⟩ = some (.int .i64 0) := K9.cellOf 2 rfl
      have r3 : w9.cell? ⟨br, 3, none⟩ = some (.int .i64 0) := K9.cellOf 3 rfl
      have r4 : w9.cell? ⟨br, 4, none⟩ = some (.int .i64 0) := K9.cellOf 4 rfl
      have r5 : w9.cell? ⟨br, 5, none⟩ = some (.int .u64 0) := K9.cellOf 5 rfl
      have r6 : w9.cell? ⟨br, 6, none⟩ = some (.int .u64 0) := K9.cellOf 6 rfl
      rw [hb.out]
      refine bodyPost_ret (v := .tuple #[stv noStep, .int .i64 150]) ?_ rfl ⟨rfl, K9.tail.tail⟩
      simp [results, Try.results14, go_sem, r0, r1, r2, r3, r4, r5, r6, stv, noStep]
    | false =>
      have hb : Hid (s.take c f = ((s.takeIn c f).1, (s.takeIn c f).2, 0)) := by show _ = _; unfold Gt.take; rw [if_pos ⟨h, h', by simp [List.getD, hx]⟩, Int.toNat_natCast]
      clear L hx h h'
      replace hcl := Lib.hid hcl
      have hcn' : Hid (c < s.came.length ∧ c < s.marks.length) := ⟨by have := hl.out; omega, hcn⟩
      have hcb' : Hid (s.blk.length = s.came.length) := by have := hl.out; show _ = _; omega
      go_upto_region 4 with (fail)
      have K2 := Lib.hid (K.out.alloc (.cells #[.int .i64 0, .int .i64 0, .int .i64 0, .int .i64 0, .int .i64 0, .int .u64 0, .int .u64 0] 38))
      clear K k0 k2 cx hcc hc1 hnd hgd hgn hcn
      generalize World.alloc _ _ = w2 at K2 ⊢
      generalize w1.heap.size = bs at K2 ⊢
      obtain ⟨tk, htk⟩ : ∃ t, s.takeIn c f = t := ⟨_, rfl⟩
      rw [htk] at hb
      replace htk := Lib.hid htk
      have KK := K2.out
      have y0 : w2.cell? ⟨bx, 0, none⟩ = some (.int .i64 f.1) := KK.at2.cellOf 0 rfl
      have y1 : w2.cell? ⟨bx, 1, none⟩ = some (.int .i64 f.2.1.1) := KK.at2.cellOf 1 rfl
      have y2 : w2.cell? ⟨bx, 2, none⟩ = some (.int .i64 f.2.1.2.1) := KK.at2.cellOf 2 rfl
      have y3 : w2.cell? ⟨bx, 3, none⟩ = some (.int .i64 f.2.1.2.2) := KK.at2.cellOf 3 rfl
      have y4 : w2.cell? ⟨bx, 4, none⟩ = some (.int .i64 f.2.2.1) := KK.at2.cellOf 4 rfl
      have y5 : w2.cell? ⟨bx, 5, none⟩ = some (.int .u64 f.2.2.2.1) := KK.at2.cellOf 5 rfl
      have y6 : w2.cell? ⟨bx, 6, none⟩ = some (.bool f.2.2.2.2) := KK.at2.cellOf 6 rfl
      have gy0 := KK.at2.frozenOf 0
      have gy1 := KK.at2.frozenOf 1
      have gy2 := KK.at2.frozenOf 2
      have gy3 := KK.at2.frozenOf 3
      have gy4 := KK.at2.frozenOf 4
      have gy5 := KK.at2.frozenOf 5
      have gy6 := KK.at2.frozenOf 6
      have b0 : w2.cell? ⟨bs, 0, none⟩ = some (.int .i64 0) := KK.cellOf 0 rfl
      have b1 : w2.cell? ⟨bs, 1, none⟩ = some (.int .i64 0) := KK.cellOf 1 rfl
      have b2 : w2.cell? ⟨bs, 2, none⟩ = some (.int .i64 0) := KK.cellOf 2 rfl
      have b3 : w2.cell? ⟨bs, 3, none⟩ = some (.int .i64 0) := KK.cellOf 3 rfl
      have b4 : w2.cell? ⟨bs, 4, none⟩ = some (.int .i64 0) := KK.cellOf 4 rfl
      have b5 : w2.cell? ⟨bs, 5, none⟩ = some (.int .u64 0) := KK.cellOf 5 rfl
      have b6 : w2.cell? ⟨bs, 6, none⟩ = some (.int .u64 0) := KK.cellOf 6 rfl
      have g0 := KK.frozenOf 0
      have g1 := KK.frozenOf 1
      have g2 := KK.frozenOf 2
      have g3 := KK.frozenOf 3
      have g4 := KK.frozenOf 4
      have g5 := KK.frozenOf 5
      have g6 := KK.frozenOf 6
      clear KK
      go_upto_block 0 with (fail)
      go_cut [] (fun wx => Hid (Hs w0 wx (Blk bs (.cells (stc tk.2) 38) :: Blk br (.cells #[.int .i64 0, .int .i64 0, .int .i64 0, .int .i64 0, .int .i64 0, .int .u64 0, .int .u64 0] 38) :: Blk bx (.cells #[.int .i64 f.1, .int .i64 f.2.1.1, .int .i64 f.2.1.2.1, .int .i64 f.2.1.2.2, .int .i64 f.2.2.1, .int .u64 f.2.2.2.1, .bool f.2.2.2.2] 31) :: GateP p tk.1 :: R)))
      case first =>
        by_cases h1 : f.1 = 1
        · have e1 : (f.1 == 1) = true := by rw [beq_iff_eq]; exact h1
          have ht : Hid (tk = (s.capture c f, (1, f.2.1, 0, 0, 0))) := by show _ = _; rw [← htk.out]; unfold Gt.takeIn; rw [if_pos h1]
          clear h1 htk
          go_wp2_with fail
          refine (capture28 p c f s w2 w0 _ K2.out.at3 hcn'.out.1 hbd.out).mono ?_
          rintro e w3 ⟨rfl, K3⟩
          clear b0 g0 y0 gy0 b1 g1 y1 gy1 b2 g2 y2 gy2 b3 g3 y3 gy3 b4 g4 y4 gy4 b5 g5 y5 gy5 b6 g6 y6 gy6
          have y0 : w3.cell? ⟨bx, 0, none⟩ = some (.int .i64 f.1) := K3.at3.cellOf 0 rfl
          have y1 : w3.cell? ⟨bx, 1, none⟩ = some (.int .i64 f.2.1.1) := K3.at3.cellOf 1 rfl
          have y2 : w3.cell? ⟨bx, 2, none⟩ = some (.int .i64 f.2.1.2.1) := K3.at3.cellOf 2 rfl
          have y3 : w3.cell? ⟨bx, 3, none⟩ = some (.int .i64 f.2.1.2.2) := K3.at3.cellOf 3 rfl
          have y4 : w3.cell? ⟨bx, 4, none⟩ = some (.int .i64 f.2.2.1) := K3.at3.cellOf 4 rfl
          have y5 : w3.cell? ⟨bx, 5, none⟩ = some (.int .u64 f.2.2.2.1) := K3.at3.cellOf 5 rfl
          have y6 : w3.cell? ⟨bx, 6, none⟩ = some (.bool f.2.2.2.2) := K3.at3.cellOf 6 rfl
          have gy0 := K3.at3.frozenOf 0
          have gy1 := K3.at3.frozenOf 1
          have gy2 := K3.at3.frozenOf 2
          have gy3 := K3.at3.frozenOf 3
          have gy4 := K3.at3.frozenOf 4
          have gy5 := K3.at3.frozenOf 5
          have gy6 := K3.at3.frozenOf 6
          have b0 : w3.cell? ⟨bs, 0, none⟩ = some (.int .i64 0) := K3.at1.cellOf 0 rfl
          have b1 : w3.cell? ⟨bs, 1, none⟩ = some (.int .i64 0) := K3.at1.cellOf 1 rfl
          have b2 : w3.cell? ⟨bs, 2, none⟩ = some (.int .i64 0) := K3.at1.cellOf 2 rfl
          have b3 : w3.cell? ⟨bs, 3, none⟩ = some (.int .i64 0) := K3.at1.cellOf 3 rfl
          have b4 : w3.cell? ⟨bs, 4, none⟩ = some (.int .i64 0) := K3.at1.cellOf 4 rfl
          have b5 : w3.cell? ⟨bs, 5, none⟩ = some (.int .u64 0) := K3.at1.cellOf 5 rfl
          have b6 : w3.cell? ⟨bs, 6, none⟩ = some (.int .u64 0) := K3.at1.cellOf 6 rfl
          have g0 := K3.at1.frozenOf 0
          have g1 := K3.at1.frozenOf 1
          have g2 := K3.at1.frozenOf 2
          have g3 := K3.at1.frozenOf 3
          have g4 := K3.at1.frozenOf 4
          have g5 := K3.at1.frozenOf 5
          have g6 := K3.at1.frozenOf 6
          have K9 := (((((((K3.at1.setCell (i := 0) (.int .i64 1)).setCell (i := 1) (.int .i64 f.2.1.1)).setCell (i := 2) (.int .i64 f.2.1.2.1)).setCell (i := 3) (.int .i64 f.2.1.2.2)).setCell (i := 4) (.int .i64 0)).setCell (i := 5) (.int .u64 0)).setCell (i := 6) (.int .u64 0))
          simp only [List.setIfInBounds_toArray, List.set_cons_zero, List.set_cons_succ] at K9
          replace K9 := Lib.hid K9.at1.at3.at3.at3
          clear K2 K3
          go_wp2_with fail
          go_meet
          case rel =>
            rw [ht.out]
            exact K9
        · have e1 : (f.1 == 1) = false := by rw [beq_eq_false_iff_ne]; exact h1
          by_cases h2 : f.1 = 2
          · have e2 : (f.1 == 2) = true := by rw [beq_iff_eq]; exact h2
            have ht : Hid (tk = ((s.capture c f).rise c f.2.2.1, (s.capture c f).riseS c f.2.2.1)) := by show _ = _; rw [← htk.out]; unfold Gt.takeIn; rw [if_neg h1, if_pos h2]
            clear h1 h2 htk
            have hm : (s.capture c f).marks = s.marks := by unfold Gt.capture; split <;> rfl
            have hcm2 : Hid (c < (s.capture c f).marks.length) := by show _ < _; rw [hm]; exact hcn'.out.2
            clear hm
            go_wp2_with fail
            refine (capture28 p c f s w2 w0 _ K2.out.at3 hcn'.out.1 hbd.out).mono ?_
            rintro e w3 ⟨rfl, K3⟩
            clear b0 g0 y0 gy0 b1 g1 y1 gy1 b2 g2 y2 gy2 b3 g3 y3 gy3 b4 g4 y4 gy4 b5 g5 y5 gy5 b6 g6 y6 gy6
            have y0 : w3.cell? ⟨bx, 0, none⟩ = some (.int .i64 f.1) := K3.at3.cellOf 0 rfl
            have y1 : w3.cell? ⟨bx, 1, none⟩ = some (.int .i64 f.2.1.1) := K3.at3.cellOf 1 rfl
            have y2 : w3.cell? ⟨bx, 2, none⟩ = some (.int .i64 f.2.1.2.1) := K3.at3.cellOf 2 rfl
            have y3 : w3.cell? ⟨bx, 3, none⟩ = some (.int .i64 f.2.1.2.2) := K3.at3.cellOf 3 rfl
            have y4 : w3.cell? ⟨bx, 4, none⟩ = some (.int .i64 f.2.2.1) := K3.at3.cellOf 4 rfl
            have y5 : w3.cell? ⟨bx, 5, none⟩ = some (.int .u64 f.2.2.2.1) := K3.at3.cellOf 5 rfl
            have y6 : w3.cell? ⟨bx, 6, none⟩ = some (.bool f.2.2.2.2) := K3.at3.cellOf 6 rfl
            have gy0 := K3.at3.frozenOf 0
            have gy1 := K3.at3.frozenOf 1
            have gy2 := K3.at3.frozenOf 2
            have gy3 := K3.at3.frozenOf 3
            have gy4 := K3.at3.frozenOf 4
            have gy5 := K3.at3.frozenOf 5
            have gy6 := K3.at3.frozenOf 6
            have b0 : w3.cell? ⟨bs, 0, none⟩ = some (.int .i64 0) := K3.at1.cellOf 0 rfl
            have b1 : w3.cell? ⟨bs, 1, none⟩ = some (.int .i64 0) := K3.at1.cellOf 1 rfl
            have b2 : w3.cell? ⟨bs, 2, none⟩ = some (.int .i64 0) := K3.at1.cellOf 2 rfl
            have b3 : w3.cell? ⟨bs, 3, none⟩ = some (.int .i64 0) := K3.at1.cellOf 3 rfl
            have b4 : w3.cell? ⟨bs, 4, none⟩ = some (.int .i64 0) := K3.at1.cellOf 4 rfl
            have b5 : w3.cell? ⟨bs, 5, none⟩ = some (.int .u64 0) := K3.at1.cellOf 5 rfl
            have b6 : w3.cell? ⟨bs, 6, none⟩ = some (.int .u64 0) := K3.at1.cellOf 6 rfl
            have g0 := K3.at1.frozenOf 0
            have g1 := K3.at1.frozenOf 1
            have g2 := K3.at1.frozenOf 2
            have g3 := K3.at1.frozenOf 3
            have g4 := K3.at1.frozenOf 4
            have g5 := K3.at1.frozenOf 5
            have g6 := K3.at1.frozenOf 6
            obtain ⟨s2, hs2⟩ : ∃ t, s.capture c f = t := ⟨_, rfl⟩
            rw [hs2] at K3 ht hcm2
            clear hs2
            replace K3 := Lib.hid K3
            clear K2
            go_wp2_with fail
            refine (rise29 p c f.2.2.1 s2 w3 w0 _ K3.out hcm2.out).mono ?_
            rintro e w4 ⟨rfl, K4⟩
            obtain ⟨⟨x0, ⟨x1, x2, x3⟩, x4, x5, x6⟩, hq⟩ : ∃ q, s2.riseS c f.2.2.1 = q := ⟨_, rfl⟩
            rw [hq] at ht ⊢
            clear hq
            unfold stv
            dsimp only
            clear b0 g0 y0 gy0 b1 g1 y1 gy1 b2 g2 y2 gy2 b3 g3 y3 gy3 b4 g4 y4 gy4 b5 g5 y5 gy5 b6 g6 y6 gy6
            have y0 : w4.cell? ⟨bx, 0, none⟩ = some (.int .i64 f.1) := K4.at3.cellOf 0 rfl
            have y1 : w4.cell? ⟨bx, 1, none⟩ = some (.int .i64 f.2.1.1) := K4.at3.cellOf 1 rfl
            have y2 : w4.cell? ⟨bx, 2, none⟩ = some (.int .i64 f.2.1.2.1) := K4.at3.cellOf 2 rfl
            have y3 : w4.cell? ⟨bx, 3, none⟩ = some (.int .i64 f.2.1.2.2) := K4.at3.cellOf 3 rfl
            have y4 : w4.cell? ⟨bx, 4, none⟩ = some (.int .i64 f.2.2.1) := K4.at3.cellOf 4 rfl
            have y5 : w4.cell? ⟨bx, 5, none⟩ = some (.int .u64 f.2.2.2.1) := K4.at3.cellOf 5 rfl
            have y6 : w4.cell? ⟨bx, 6, none⟩ = some (.bool f.2.2.2.2) := K4.at3.cellOf 6 rfl
            have gy0 := K4.at3.frozenOf 0
            have gy1 := K4.at3.frozenOf 1
            have gy2 := K4.at3.frozenOf 2
            have gy3 := K4.at3.frozenOf 3
            have gy4 := K4.at3.frozenOf 4
            have gy5 := K4.at3.frozenOf 5
            have gy6 := K4.at3.frozenOf 6
            have b0 : w4.cell? ⟨bs, 0, none⟩ = some (.int .i64 0) := K4.at1.cellOf 0 rfl
            have b1 : w4.cell? ⟨bs, 1, none⟩ = some (.int .i64 0) := K4.at1.cellOf 1 rfl
            have b2 : w4.cell? ⟨bs, 2, none⟩ = some (.int .i64 0) := K4.at1.cellOf 2 rfl
            have b3 : w4.cell? ⟨bs, 3, none⟩ = some (.int .i64 0) := K4.at1.cellOf 3 rfl
            have b4 : w4.cell? ⟨bs, 4, none⟩ = some (.int .i64 0) := K4.at1.cellOf 4 rfl
            have b5 : w4.cell? ⟨bs, 5, none⟩ = some (.int .u64 0) := K4.at1.cellOf 5 rfl
            have b6 : w4.cell? ⟨bs, 6, none⟩ = some (.int .u64 0) := K4.at1.cellOf 6 rfl
            have g0 := K4.at1.frozenOf 0
            have g1 := K4.at1.frozenOf 1
            have g2 := K4.at1.frozenOf 2
            have g3 := K4.at1.frozenOf 3
            have g4 := K4.at1.frozenOf 4
            have g5 := K4.at1.frozenOf 5
            have g6 := K4.at1.frozenOf 6
            have K9 := (((((((K4.at1.setCell (i := 0) (.int .i64 x0)).setCell (i := 1) (.int .i64 x1)).setCell (i := 2) (.int .i64 x2)).setCell (i := 3) (.int .i64 x3)).setCell (i := 4) (.int .i64 x4)).setCell (i := 5) (.int .u64 x5)).setCell (i := 6) (.int .u64 x6))
            simp only [List.setIfInBounds_toArray, List.set_cons_zero, List.set_cons_succ] at K9
            replace K9 := Lib.hid K9.at1.at3.at3.at3
            clear K3 K4
            go_wp2_with fail
            go_meet
            case rel =>
              rw [ht.out]
              exact K9
          · have e2 : (f.1 == 2) = false := by rw [beq_eq_false_iff_ne]; exact h2
            by_cases h3 : f.1 = 3
            · have e3 : (f.1 == 3) = true := by rw [beq_iff_eq]; exact h3
              have ht : Hid (tk = s.barrier c f.2.2.2.1 f.2.2.2.2) := by show _ = _; rw [← htk.out]; unfold Gt.takeIn; rw [if_neg h1, if_neg h2, if_pos h3]
              clear h1 h2 h3 htk
              go_wp2_with fail
              refine (barrier30 p c f s w2 w0 _ K2.out.at3 hcn'.out.1 hcb'.out).mono ?_
              rintro e w4 ⟨rfl, K4⟩
              obtain ⟨⟨s2, x0, ⟨x1, x2, x3⟩, x4, x5, x6⟩, hq⟩ : ∃ q, s.barrier c f.2.2.2.1 f.2.2.2.2 = q := ⟨_, rfl⟩
              rw [hq] at ht K4 ⊢
              clear hq
              unfold stv
              dsimp only
              clear b0 g0 y0 gy0 b1 g1 y1 gy1 b2 g2 y2 gy2 b3 g3 y3 gy3 b4 g4 y4 gy4 b5 g5 y5 gy5 b6 g6 y6 gy6
              have y0 : w4.cell? ⟨bx, 0, none⟩ = some (.int .i64 f.1) := K4.at3.cellOf 0 rfl
              have y1 : w4.cell? ⟨bx, 1, none⟩ = some (.int .i64 f.2.1.1) := K4.at3.cellOf 1 rfl
              have y2 : w4.cell? ⟨bx, 2, none⟩ = some (.int .i64 f.2.1.2.1) := K4.at3.cellOf 2 rfl
              have y3 : w4.cell? ⟨bx, 3, none⟩ = some (.int .i64 f.2.1.2.2) := K4.at3.cellOf 3 rfl
              have y4 : w4.cell? ⟨bx, 4, none⟩ = some (.int .i64 f.2.2.1) := K4.at3.cellOf 4 rfl
              have y5 : w4.cell? ⟨bx, 5, none⟩ = some (.int .u64 f.2.2.2.1) := K4.at3.cellOf 5 rfl
              have y6 : w4.cell? ⟨bx, 6, none⟩ = some (.bool f.2.2.2.2) := K4.at3.cellOf 6 rfl
              have gy0 := K4.at3.frozenOf 0
              have gy1 := K4.at3.frozenOf 1
              have gy2 := K4.at3.frozenOf 2
              have gy3 := K4.at3.frozenOf 3
              have gy4 := K4.at3.frozenOf 4
              have gy5 := K4.at3.frozenOf 5
              have gy6 := K4.at3.frozenOf 6
              have b0 : w4.cell? ⟨bs, 0, none⟩ = some (.int .i64 0) := K4.at1.cellOf 0 rfl
              have b1 : w4.cell? ⟨bs, 1, none⟩ = some (.int .i64 0) := K4.at1.cellOf 1 rfl
              have b2 : w4.cell? ⟨bs, 2, none⟩ = some (.int .i64 0) := K4.at1.cellOf 2 rfl
              have b3 : w4.cell? ⟨bs, 3, none⟩ = some (.int .i64 0) := K4.at1.cellOf 3 rfl
              have b4 : w4.cell? ⟨bs, 4, none⟩ = some (.int .i64 0) := K4.at1.cellOf 4 rfl
              have b5 : w4.cell? ⟨bs, 5, none⟩ = some (.int .u64 0) := K4.at1.cellOf 5 rfl
              have b6 : w4.cell? ⟨bs, 6, none⟩ = some (.int .u64 0) := K4.at1.cellOf 6 rfl
              have g0 := K4.at1.frozenOf 0
              have g1 := K4.at1.frozenOf 1
              have g2 := K4.at1.frozenOf 2
              have g3 := K4.at1.frozenOf 3
              have g4 := K4.at1.frozenOf 4
              have g5 := K4.at1.frozenOf 5
              have g6 := K4.at1.frozenOf 6
              have K9 := (((((((K4.at1.setCell (i := 0) (.int .i64 x0)).setCell (i := 1) (.int .i64 x1)).setCell (i := 2) (.int .i64 x2)).setCell (i := 3) (.int .i64 x3)).setCell (i := 4) (.int .i64 x4)).setCell (i := 5) (.int .u64 x5)).setCell (i := 6) (.int .u64 x6))
              simp only [List.setIfInBounds_toArray, List.set_cons_zero, List.set_cons_succ] at K9
              replace K9 := Lib.hid K9.at1.at3.at3.at3
              clear K2 K4
              go_wp2_with fail
              go_meet
              case rel =>
                rw [ht.out]
                exact K9
            · have e3 : (f.1 == 3) = false := by rw [beq_eq_false_iff_ne]; exact h3
              have ht : Hid (tk = (s, noStep)) := by show _ = _; rw [← htk.out]; unfold Gt.takeIn; rw [if_neg h1, if_neg h2, if_neg h3]
              clear h1 h2 h3 htk
              go_wp2_with fail
              go_meet
              case rel =>
                rw [ht.out]
                exact K2
      case rest =>
        have K6 := hcut.out
        clear hcut K2 htk b0 g0 y0 gy0 b1 g1 y1 gy1 b2 g2 y2 gy2 b3 g3 y3 gy3 b4 g4 y4 gy4 b5 g5 y5 gy5 b6 g6 y6 gy6
        obtain ⟨sq, x0, ⟨x1, x2, x3⟩, x4, x5, x6⟩ := tk
        unfold stc at K6
        dsimp only at K6
        have e0 : wc.cell? ⟨bs, 0, none⟩ = some (.int .i64 x0) := K6.cellOf 0 rfl
        have e1 : wc.cell? ⟨bs, 1, none⟩ = some (.int .i64 x1) := K6.cellOf 1 rfl
        have e2 : wc.cell? ⟨bs, 2, none⟩ = some (.int .i64 x2) := K6.cellOf 2 rfl
        have e3 : wc.cell? ⟨bs, 3, none⟩ = some (.int .i64 x3) := K6.cellOf 3 rfl
        have e4 : wc.cell? ⟨bs, 4, none⟩ = some (.int .i64 x4) := K6.cellOf 4 rfl
        have e5 : wc.cell? ⟨bs, 5, none⟩ = some (.int .u64 x5) := K6.cellOf 5 rfl
        have e6 : wc.cell? ⟨bs, 6, none⟩ = some (.int .u64 x6) := K6.cellOf 6 rfl
        have b0 : wc.cell? ⟨br, 0, none⟩ = some (.int .i64 0) := K6.at1.cellOf 0 rfl
        have b1 : wc.cell? ⟨br, 1, none⟩ = some (.int .i64 0) := K6.at1.cellOf 1 rfl
        have b2 : wc.cell? ⟨br, 2, none⟩ = some (.int .i64 0) := K6.at1.cellOf 2 rfl
        have b3 : wc.cell? ⟨br, 3, none⟩ = some (.int .i64 0) := K6.at1.cellOf 3 rfl
        have b4 : wc.cell? ⟨br, 4, none⟩ = some (.int .i64 0) := K6.at1.cellOf 4 rfl
        have b5 : wc.cell? ⟨br, 5, none⟩ = some (.int .u64 0) := K6.at1.cellOf 5 rfl
        have b6 : wc.cell? ⟨br, 6, none⟩ = some (.int .u64 0) := K6.at1.cellOf 6 rfl
        have g0 := K6.at1.frozenOf 0
        have g1 := K6.at1.frozenOf 1
        have g2 := K6.at1.frozenOf 2
        have g3 := K6.at1.frozenOf 3
        have g4 := K6.at1.frozenOf 4
        have g5 := K6.at1.frozenOf 5
        have g6 := K6.at1.frozenOf 6
        go_wp2_with fail
        have K9 := (((((((K6.at1.setCell (i := 0) (.int .i64 x0)).setCell (i := 1) (.int .i64 x1)).setCell (i := 2) (.int .i64 x2)).setCell (i := 3) (.int .i64 x3)).setCell (i := 4) (.int .i64 x4)).setCell (i := 5) (.int .u64 x5)).setCell (i := 6) (.int .u64 x6))
        generalize World.setCell _ _ _ = w9 at K9 ⊢
        simp only [List.setIfInBounds_toArray, List.set_cons_zero, List.set_cons_succ] at K9
        have r0 : w9.cell? ⟨br, 0, none⟩ = some (.int .i64 x0) := K9.cellOf 0 rfl
        have r1 : w9.cell? ⟨br, 1, none⟩ = some (.int .i64 x1) := K9.cellOf 1 rfl
        have r2 : w9.cell? ⟨br, 2, none⟩ = some (.int .i64 x2) := K9.cellOf 2 rfl
        have r3 : w9.cell? ⟨br, 3, none⟩ = some (.int .i64 x3) := K9.cellOf 3 rfl
        have r4 : w9.cell? ⟨br, 4, none⟩ = some (.int .i64 x4) := K9.cellOf 4 rfl
        have r5 : w9.cell? ⟨br, 5, none⟩ = some (.int .u64 x5) := K9.cellOf 5 rfl
        have r6 : w9.cell? ⟨br, 6, none⟩ = some (.int .u64 x6) := K9.cellOf 6 rfl
        rw [hb.out]
        refine bodyPost_ret (v := .tuple #[stv (x0, (x1, x2, x3), x4, x5, x6), .int .i64 0]) ?_ rfl ⟨rfl, K9.tail.tail.tail⟩
        simp [results, Try.results14, go_sem, r0, r1, r2, r3, r4, r5, r6, stv]
end Go.Proofs.Ytlhgmfdmkckmhaa

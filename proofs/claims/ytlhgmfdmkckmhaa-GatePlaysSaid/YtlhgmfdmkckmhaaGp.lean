import Derived.Test.YtlhgmfdmkckmhaaRf
import Derived.Test.YtlhgmfdmkckmhaaMa
import Derived.Test.YtlhgmfdmkckmhaaEq
import Derived.Test.YtlhgmfdmkckmhaaOu
import Derived.IntWalk
import Derived.Deep.RegionHeld3
import Derived.Test.YtlhgmfdmkckmhaaProg
import Derived.Test.YtlhgmfdmkckmhaaLs
import Derived.Outline
import Derived.StillTailTactics
import Derived.Deep.DeepCutAuto
import Derived.Deep.CutBlock
import Derived.Deep.LoopGhost
import Derived.Deep.QuietTactic
import Derived.BigQuiet
import Derived.Deep.RegionHeld3
import Derived.Deep.RegionLaw
set_option linter.unusedVariables false
set_option linter.unusedSimpArgs false
namespace Go.Proofs.Ytlhgmfdmkckmhaa
open Go.RowKit
abbrev StepRow := Int × Fr × Bool × Slc
abbrev EStep : Enc StepRow := (Enc.num .i64).pair (EFr.pair (Enc.flag.pair Enc.slc))
/-- A step's cells. -/
theorem step_cells {w : World} {g off n c : Nat} {xs : List StepRow} {k : Nat} {ch fk r0 r1 r2 mk nn : Int} {ov ld : Bool} {sl : Slc} (H : RdL EStep w (.slice (some ⟨g, off, none⟩) n c) xs) (hx : xs[k]? = some (ch, (fk, (r0, r1, r2), mk, nn, ov), ld, sl)) :
    w.cell? ⟨g, off + k * 10, none⟩ = some (.int .i64 ch) ∧ w.cell? ⟨g, off + k * 10 + 1, none⟩ = some (.int .i64 fk) ∧ w.cell? ⟨g, off + k * 10 + 2, none⟩ = some (.int .i64 r0) ∧ w.cell? ⟨g, off + k * 10 + 3, none⟩ = some (.int .i64 r1) ∧ w.cell? ⟨g, off + k * 10 + 4, none⟩ = some (.int .i64 r2) ∧
    w.cell? ⟨g, off + k * 10 + 5, none⟩ = some (.int .i64 mk) ∧ w.cell? ⟨g, off + k * 10 + 6, none⟩ = some (.int .u64 nn) ∧ w.cell? ⟨g, off + k * 10 + 7, none⟩ = some (.bool ov) ∧ w.cell? ⟨g, off + k * 10 + 8, none⟩ = some (.bool ld) ∧ w.cell? ⟨g, off + k * 10 + 9, none⟩ = some (.slice sl.1 sl.2.1 sl.2.2) :=
  ⟨H.cell hx 0 rfl, H.cell hx 1 rfl, H.cell hx 2 rfl, H.cell hx 3 rfl, H.cell hx 4 rfl, H.cell hx 5 rfl, H.cell hx 6 rfl, H.cell hx 7 rfl, H.cell hx 8 rfl, H.cell hx 9 rfl⟩
set_option maxRecDepth 100000 in
/-- What a step of the script reads as. -/
def GOk (w : World) (x : StepRow) : Prop := ∃ ms, RdL (Enc.num .i64) w (.slice x.2.2.2.1 x.2.2.2.2.1 x.2.2.2.2.2) ms
theorem gok_of {w : World} {x : StepRow} {P1 P2 P3 P4 : Prop} {Q : List Int → Prop} (h : P1 ∧ P2 ∧ P3 ∧ P4 ∧ ∃ xs, RdL (Enc.num .i64) w (.slice x.2.2.2.1 x.2.2.2.2.1 x.2.2.2.2.2) xs ∧ Q xs) : GOk w x :=
  let ⟨_, _, _, _, xs, h, _⟩ := h; ⟨xs, h⟩
theorem take_cap (s : Gt) (ch : Int) (f : Fr) : (s.take ch f).1.cap.length ≤ s.cap.length + 1 := by
  unfold Gt.take
  split
  · show (s.takeIn ch.toNat f).1.cap.length ≤ _
    unfold Gt.takeIn
    split
    · exact (capture_marks s _ f).2.2.2
    · split
      · exact (capture_marks s _ f).2.2.2
      · split
        · have := (barrier_marks s ch.toNat f.2.2.2.1 f.2.2.2.2).2.2.2.1
          omega
        · exact Nat.le_succ _
  · exact Nat.le_succ _
theorem load_cap (s : Gt) (ms : List Int) : (s.load ms).cap.length = 0 := rfl
set_option maxRecDepth 100000 in
set_option maxHeartbeats 8000000 in
theorem gateplays_walk (n0 : Int) (A : Option Addr) (n c : Nat) (xs : List StepRow) (w : World) (hn : (Lit.int .i64 n0).wf = true) (hr : RdL EStep w (.slice A n c) xs) (hok : ∀ x ∈ xs, GOk w x) :
    Calls Try.prog 7 #[.int .i64 n0, .slice A n c] w fun e w' => e = .returned (.bool true) ∧ Below w.heap.size w w' := by
  clear hn
  have hcap := hr.caps.2
  have hnl := Lib.hid hr.caps.1
  replace hr := Lib.hid hr
  replace hok := Lib.hid hok
  obtain ⟨N, hN⟩ : ∃ N : Nat, (min (max n0 1) 64).toNat = N := ⟨_, rfl⟩
  have hN8 : N ≤ 64 := by omega
  have hN1 : 1 ≤ N := by omega
  have hNp : (0 : Int) < (N : Int) := by omega
  have hsim := Lib.hid (sim_new n0)
  rw [hN] at hsim
  replace hN := Lib.hid hN
  rcases (show (300 : Int) < (n : Int) ∨ (n : Int) ≤ 300 by omega) with h3 | h3
  · go_enter Try.func7, Try.ntmps7
    go_wp2_with fail
    refine (known8 w w _ (Hs.start w)).mono ?_
    rintro e w1 ⟨rfl, H⟩
    go_wp2_with fail
    go_ret
    exact ⟨rfl, H.under_old⟩
  go_enter Try.func7, Try.ntmps7
  go_wp2_with fail
  refine (known8 w w _ (Hs.start w)).mono ?_
  rintro e w1 ⟨rfl, H⟩
  go_wp2_with fail
  refine (new12 n0 _ w _ H).mono ?_
  rintro e w1 ⟨p, rfl, H⟩
  go_wp2_with fail
  refine (rnew22 n0 _ w _ H).mono ?_
  rintro e w1 ⟨q, rfl, H⟩
  rw [hN.out] at H
  obtain ⟨s0, hs0⟩ : ∃ s, Gt.new n0 = s := ⟨_, rfl⟩
  have hcap0 : s0.cap.length ≤ 0 := by rw [← hs0]; exact Nat.le_refl 0
  obtain ⟨r0, hr0⟩ : ∃ r, ((⟨[], 0, 0, false, [], []⟩ : Rf).load [] N) = r := ⟨_, rfl⟩
  rw [hs0, hr0] at hsim
  rw [hs0, hr0] at H
  clear hs0 hr0
  have hrm : r0.m.length = N := by rw [hsim.out.m]; exact hsim.out.ok.1
  obtain ⟨Am, cm, Ac, cc, Ak, ck, L⟩ := RefP.open_ H
  have k0 : w1.cell? ⟨q, 0, none⟩ = some (.slice Am r0.m.length cm) := L.cellOf 0 rfl
  rw [hrm] at k0
  clear L hrm
  replace H := Lib.hid H
  go_upto_region 7 with (fail)
  clear k0
  go_wp2_with fail
  have hst : Hid (Sim N s0 r0 ∧ s0.cap.length ≤ 0) := ⟨hsim.out, hcap0⟩
  clear hsim hcap0
  go_loopg [7] n (fun k iv wr => ∃ (j : Nat) (s : Gt) (r : Rf), k + j = n ∧ iv = .int .i64 j ∧ Hid (Sim N s r ∧ s.cap.length ≤ j) ∧ Hid (Hs w wr [RefP q r, GateP p s, Old w]))
  case atStart => exact ⟨0, s0, r0, rfl, rfl, hst, H⟩
  case round =>
    clear H hst
    obtain ⟨j, s, r, hk, rfl, hst, H⟩ := hrel
    have hjn : j ≤ n := by omega
    replace hk := Lib.hid hk
    rcases Nat.lt_or_ge j n with hj | hj
    · have hj1 : (j : Int) < (n : Int) := by omega
      have hj0 : (0 : Int) ≤ (j : Int) := by omega
      have hw6 : IntKind.i64.wrap ((j : Int) + 1) = ((j + 1 : Nat) : Int) := by rw [IntWalk.i64_in _ (by omega)]; omega
      obtain ⟨g, off, rfl⟩ := hr.out.some_ (by have := hnl.out; omega)
      obtain ⟨⟨ch, ⟨fk, ⟨q0, q1, q2⟩, mk, nn, ov⟩, ld, sl⟩, hx⟩ : ∃ x, xs[j]? = some x := ⟨_, List.getElem?_eq_getElem (by have := hnl.out; omega)⟩
      obtain ⟨ms, hms⟩ := hok.out _ (List.mem_of_getElem? hx)
      dsimp only at hms
      have hrd := hr.out.old H.out.at2
      obtain ⟨e0, e1, e2, e3, e4, e5, e6, e7, e8, e9⟩ := step_cells hrd hx
      clear hrd hx
      obtain ⟨sa, sn, sc⟩ := sl
      dsimp only at hms e9
      replace hms := Lib.hid hms
      go_upto_region 11 with (fail)
      have H1 := Lib.hid (H.out.alloc (.cells #[.int .i64 ch, .int .i64 fk, .int .i64 q0, .int .i64 q1, .int .i64 q2, .int .i64 mk, .int .u64 nn, .bool ov, .bool ld, .slice sa sn sc] 52))
      generalize World.alloc _ _ = wa at H1 ⊢
      generalize wr.heap.size = bx at H1 ⊢
      clear e0 e1 e2 e3 e4 e5 e6 e7 e8 e9 H
      have e8 : wa.cell? ⟨bx, 8, none⟩ = some (.bool ld) := H1.out.cellOf 8 rfl
      go_upto_if 39 with (fail)
      go_cut [] (fun wx => ∃ s' r', Hid (Sim N s' r' ∧ s'.cap.length ≤ j + 1) ∧ Hid (Hs w wx [RefP q r', GateP p s', Old w]))
      case first =>
        cases ld with
        | true =>
          have e9 : wa.cell? ⟨bx, 9, none⟩ = some (.slice sa sn sc) := H1.out.cellOf 9 rfl
          have hms' : Hid (∀ w', Hs w w' [Old w] → RdL (Enc.num .i64) w' (.slice sa sn sc) ms) := fun w' h => hms.out.old h
          rcases (show (100 : Int) < (sn : Int) ∨ (sn : Int) ≤ 100 by omega) with h4 | h4
          · go_wp2_with fail
            go_ret
            exact ⟨rfl, H1.out.tail.tail.tail.under_old⟩
          · go_wp2_with fail
            refine (load23 p s (.slice sa sn sc) ms _ w _ H1.out.at2 (fun w' h => hms.out.old h.at2)).mono ?_
            rintro e w5 ⟨rfl, H2⟩
            have e9' : w5.cell? ⟨bx, 9, none⟩ = some (.slice sa sn sc) := H2.at1.cellOf 9 rfl
            replace H2 := Lib.hid H2
            clear H1 e8 e9
            go_wp2_with fail
            refine (rload24 q r (.slice sa sn sc) ms N hN8 _ w _ H2.out.at2 (fun w' h => hms.out.old h.at2)).mono ?_
            rintro e w6 ⟨rfl, H3⟩
            go_wp2_with fail
            go_meet
            case rel => exact ⟨s.load ms, r.load ms N, ⟨sim_load hst.out.1 ms, by rw [load_cap]; omega⟩, Lib.hid H3.at2.tail⟩
        | false =>
          have e0 : wa.cell? ⟨bx, 0, none⟩ = some (.int .i64 ch) := H1.out.cellOf 0 rfl
          have e1 : wa.cell? ⟨bx, 1, none⟩ = some (.int .i64 fk) := H1.out.cellOf 1 rfl
          have e2 : wa.cell? ⟨bx, 2, none⟩ = some (.int .i64 q0) := H1.out.cellOf 2 rfl
          have e3 : wa.cell? ⟨bx, 3, none⟩ = some (.int .i64 q1) := H1.out.cellOf 3 rfl
          have e4 : wa.cell? ⟨bx, 4, none⟩ = some (.int .i64 q2) := H1.out.cellOf 4 rfl
          have e5 : wa.cell? ⟨bx, 5, none⟩ = some (.int .i64 mk) := H1.out.cellOf 5 rfl
          have e6 : wa.cell? ⟨bx, 6, none⟩ = some (.int .u64 nn) := H1.out.cellOf 6 rfl
          have e7 : wa.cell? ⟨bx, 7, none⟩ = some (.bool ov) := H1.out.cellOf 7 rfl
          obtain ⟨f, hf⟩ : ∃ f : Fr, (fk, (q0, q1, q2), mk, nn, ov) = f := ⟨_, rfl⟩
          obtain ⟨hb, hs⟩ := sim_take hst.out.1 ch f
          have hcc := take_cap s ch f
          have hcr : r.cap.length ≤ 1000000 := by rw [hst.out.1.cap]; have := hst.out.2; omega
          have hcs : s.cap.length ≤ 1000000 := by have := hst.out.2; omega
          have hrl : r.come.length = r.m.length := by rw [hst.out.1.come, hst.out.1.m, hst.out.1.ok.1, hst.out.1.ok.2.1]
          have hr64 : r.m.length ≤ 64 := by rw [hst.out.1.m, hst.out.1.ok.1]; exact hN8
          obtain ⟨⟨s', ⟨x0, ⟨x1, x2, x3⟩, x4, x5, x6⟩, er⟩, hts⟩ : ∃ t, s.take ch f = t := ⟨_, rfl⟩
          obtain ⟨⟨r', x', er'⟩, htr⟩ : ∃ t, r.take ch f = t := ⟨_, rfl⟩
          rw [hts, htr] at hb hs
          rw [hts] at hcc
          dsimp only at hb hs hcc
          injection hb with hb1 hb2
          subst hb1 hb2
          have hst' : Hid (Sim N s' r' ∧ s'.cap.length ≤ j + 1) := ⟨hs, by have := hst.out.2; omega⟩
          have T1 := Lib.hid (fun w' (h : Hs w w' [GateP p s, Blk bx (.cells #[.int .i64 ch, .int .i64 fk, .int .i64 q0, .int .i64 q1, .int .i64 q2, .int .i64 mk, .int .u64 nn, .bool ov, .bool false, .slice sa sn sc] 52), RefP q r, Old w]) => take14 p ch f s N w' w _ h hst.out.1.ok hcs)
          have T2 := Lib.hid (fun w' (R' : List HP) (h : Hs w w' (RefP q r :: R')) => rtake25 q ch f r w' w _ h hrl hr64 hcr)
          rw [hts] at T1
          rw [htr] at T2
          rw [← hf] at T1 T2
          dsimp only [frv, stv] at T1 T2
          clear hs hcc hcr hcs hrl hr64 hts htr hst hf
          go_wp2_with fail
          refine (T1.out _ H1.out.at2).mono ?_
          rintro e w5 ⟨rfl, H2⟩
          clear e0 e1 e2 e3 e4 e5 e6 e7
          have H3 := Lib.hid (H2.alloc (.cells #[.int .i64 x0, .int .i64 x1, .int .i64 x2, .int .i64 x3, .int .i64 x4, .int .u64 x5, .int .u64 x6] 38))
          go_upto_region 17 with (fail)
          generalize World.alloc _ _ = wb at H3 ⊢
          generalize w5.heap.size = b9 at H3 ⊢
          clear H2 H1
          have e0 : wb.cell? ⟨bx, 0, none⟩ = some (.int .i64 ch) := H3.out.at2.cellOf 0 rfl
          have e1 : wb.cell? ⟨bx, 1, none⟩ = some (.int .i64 fk) := H3.out.at2.cellOf 1 rfl
          have e2 : wb.cell? ⟨bx, 2, none⟩ = some (.int .i64 q0) := H3.out.at2.cellOf 2 rfl
          have e3 : wb.cell? ⟨bx, 3, none⟩ = some (.int .i64 q1) := H3.out.at2.cellOf 3 rfl
          have e4 : wb.cell? ⟨bx, 4, none⟩ = some (.int .i64 q2) := H3.out.at2.cellOf 4 rfl
          have e5 : wb.cell? ⟨bx, 5, none⟩ = some (.int .i64 mk) := H3.out.at2.cellOf 5 rfl
          have e6 : wb.cell? ⟨bx, 6, none⟩ = some (.int .u64 nn) := H3.out.at2.cellOf 6 rfl
          have e7 : wb.cell? ⟨bx, 7, none⟩ = some (.bool ov) := H3.out.at2.cellOf 7 rfl
          go_wp2_with fail
          refine (T2.out _ _ H3.out.at3).mono ?_
          rintro e w7 ⟨rfl, H4⟩
          clear e0 e1 e2 e3 e4 e5 e6 e7 H3
          have H5 := Lib.hid (H4.alloc (.cells #[.int .i64 x0, .int .i64 x1, .int .i64 x2, .int .i64 x3, .int .i64 x4, .int .u64 x5, .int .u64 x6] 38))
          go_upto_region 18 with (fail)
          generalize World.alloc _ _ = wd at H5 ⊢
          generalize w7.heap.size = b11 at H5 ⊢
          clear H4
          have y0 : wd.cell? ⟨b11, 0, none⟩ = some (.int .i64 x0) := H5.out.cellOf 0 rfl
          have z0 : wd.cell? ⟨b9, 0, none⟩ = some (.int .i64 x0) := H5.out.at2.cellOf 0 rfl
          have y1 : wd.cell? ⟨b11, 1, none⟩ = some (.int .i64 x1) := H5.out.cellOf 1 rfl
          have z1 : wd.cell? ⟨b9, 1, none⟩ = some (.int .i64 x1) := H5.out.at2.cellOf 1 rfl
          have y2 : wd.cell? ⟨b11, 2, none⟩ = some (.int .i64 x2) := H5.out.cellOf 2 rfl
          have z2 : wd.cell? ⟨b9, 2, none⟩ = some (.int .i64 x2) := H5.out.at2.cellOf 2 rfl
          have y3 : wd.cell? ⟨b11, 3, none⟩ = some (.int .i64 x3) := H5.out.cellOf 3 rfl
          have z3 : wd.cell? ⟨b9, 3, none⟩ = some (.int .i64 x3) := H5.out.at2.cellOf 3 rfl
          have y4 : wd.cell? ⟨b11, 4, none⟩ = some (.int .i64 x4) := H5.out.cellOf 4 rfl
          have z4 : wd.cell? ⟨b9, 4, none⟩ = some (.int .i64 x4) := H5.out.at2.cellOf 4 rfl
          have y5 : wd.cell? ⟨b11, 5, none⟩ = some (.int .u64 x5) := H5.out.cellOf 5 rfl
          have z5 : wd.cell? ⟨b9, 5, none⟩ = some (.int .u64 x5) := H5.out.at2.cellOf 5 rfl
          have y6 : wd.cell? ⟨b11, 6, none⟩ = some (.int .u64 x6) := H5.out.cellOf 6 rfl
          have z6 : wd.cell? ⟨b9, 6, none⟩ = some (.int .u64 x6) := H5.out.at2.cellOf 6 rfl
          go_wp2_with fail
          go_meet
          case rel => exact ⟨s', r', hst', Lib.hid H5.out.tail.at1.tail.at2.tail⟩
      case rest =>
        obtain ⟨s1, r1, hs1, H2⟩ := hcut
        clear H1 hst e8 hms
        obtain ⟨m1, la1, un1, ov1, come1, cap1⟩ := r1
        have hsim := hs1.out.1
        have hcb := hs1.out.2
        obtain ⟨hok1, z1, z2, z3, z4, z5, _, _, _⟩ := hs1.out.1
        dsimp only at z1 z2 z3 z4 z5
        subst z1 z2 z3 z4 z5
        clear hs1
        have hne : Hid (s1.marks ≠ []) := fun h => by have h1 := congrArg List.length h; rw [hok1.1, List.length_nil] at h1; omega
        have hb1 : Hid (s1.marks.length ≤ 1000000) := by show _ ≤ _; rw [hok1.1]; omega
        have hb2 : Hid (s1.cap.length ≤ 1000000) := by show _ ≤ _; omega
        have hcl : Hid (s1.came.length = s1.marks.length) := by show _ = _; rw [hok1.1, hok1.2.1]
        obtain ⟨l0, hl0⟩ : ∃ l, lmin s1.marks = l := ⟨_, rfl⟩
        obtain ⟨r1, hr1⟩ : ∃ r : Rf, r = ⟨s1.marks, s1.last, s1.under, ov1, s1.came, s1.cap⟩ := ⟨_, rfl⟩
        have T26 := Lib.hid (fun w' (R' : List HP) (h : Hs w w' (RefP q r1 :: R')) => rmark26 q r1 w' w R' h (by rw [hr1]; exact hne.out))
        rw [show lmin r1.m = l0 from by rw [hr1]; exact hl0] at T26
        rw [← hr1] at hsim
        have hbl := Lib.hid (fun z => sim_blocked hsim z)
        have hrl : Hid (r1.come.length = r1.m.length) := by show _ = _; rw [hr1]; exact hcl.out
        have hmk := Lib.hid (fun w' (R' : List HP) vm vc vk (h : Hs w w' (Blk q (.cells #[vm, .int .u64 s1.last, .int .u64 s1.under, .bool ov1, vc, vk] 62 (0, 0)) :: Ls (Enc.num .i64) 2 vm s1.marks :: Ls Enc.flag 4 vc s1.came :: Ls EOut 46 vk s1.cap :: R')) => show Hs w w' (RefP q r1 :: R') from by rw [hr1]; exact RefP.mk_ (r := ⟨s1.marks, s1.last, s1.under, ov1, s1.came, s1.cap⟩) h)
        replace hsim := Lib.hid hsim
        obtain ⟨Am1, cm1, Ac1, cc1, Ak1, ck1, L⟩ := RefP.open_ H2.out
        dsimp only at L
        replace hl0 := Lib.hid hl0
        replace hr1 := Lib.hid hr1
        replace hok1 := Lib.hid hok1
        replace hcb := Lib.hid hcb
        have K0 := Lib.hid L
        clear L H2
        have SS : Hid (∀ w' R', Hs w w' (Blk q (.cells #[.slice Am1 s1.marks.length cm1, .int .u64 s1.last, .int .u64 s1.under, .bool ov1, .slice Ac1 s1.came.length cc1, .slice Ak1 s1.cap.length ck1] 62) :: R') →
            w'.cell? ⟨q, 0, none⟩ = some (.slice Am1 s1.marks.length cm1) ∧ w'.cell? ⟨q, 1, none⟩ = some (.int .u64 s1.last) ∧ w'.cell? ⟨q, 2, none⟩ = some (.int .u64 s1.under) ∧ w'.cell? ⟨q, 5, none⟩ = some (.slice Ak1 s1.cap.length ck1)) :=
          fun w' R' h => ⟨h.cellOf 0 rfl, h.cellOf 1 rfl, h.cellOf 2 rfl, h.cellOf 5 rfl⟩
        go_wp2_with fail
        go_region_held3 (fun w' => w'.cell? ⟨q, 0, none⟩ = some (.slice Am1 s1.marks.length cm1) ∧ w'.cell? ⟨q, 1, none⟩ = some (.int .u64 s1.last) ∧ w'.cell? ⟨q, 2, none⟩ = some (.int .u64 s1.under) ∧ w'.cell? ⟨q, 5, none⟩ = some (.slice Ak1 s1.cap.length ck1))
          (first | exact SS.out _ _ K0.out.drew | exact SS.out _ _ K1 | exact SS.out _ _ K2 | exact SS.out _ _ K3 | exact SS.out _ _ K4)
          (first
            | (go_at_call 17; refine (mark17 p s1 _ w _ K0.out.drew.at4 hne.out).mono ?_; rw [hl0.out]; rintro e w6 ⟨rfl, rfl⟩)
            | (go_at_call 26; refine (T26.out _ _ (hmk.out _ _ _ _ _ K0.out.drew)).mono ?_; rintro e w6 ⟨rfl, rfl⟩)
            | (go_at_call 19; refine (marks19 p s1 _ w _ K0.out.drew.at4 hb1.out).mono ?_; rintro e w7 ⟨A7, c7, rfl, K1⟩; replace K1 := K1.at2)
            | (go_at_call 18; refine (eqlist18 _ _ s1.marks s1.marks _ K1.at1.ls_rd K1.at3.ls_rd).mono ?_; rw [decide_eq_true rfl]; rintro e w8 ⟨rfl, n8, rfl⟩; have K2 := K1.drewN n8)
            | (go_at_call 20; refine (under20 p s1 _ w _ K2.at2).mono ?_; rintro e w9 ⟨rfl, rfl⟩)
            | (go_at_call 21; refine (last21 p s1 _ w _ K2.at2).mono ?_; rintro e w9 ⟨rfl, rfl⟩)
            | (go_at_call 16; refine (captured16 p s1 _ w _ K2.at2 hb2.out).mono ?_; rintro e w7 ⟨A9, c9, rfl, K3⟩; replace K3 := K3.at2)
            | (go_at_call 15; refine (outs15 _ _ s1.cap _ K3.at1.ls_rd K3.at6.ls_rd).mono ?_; rintro e w8 ⟨rfl, n9, rfl⟩; have K4 := K3.drewN n9))
        have K5 := Lib.hid (hmk.out _ _ _ _ _ K4.at1.tail.at2.tail.at1.at4.at4.at4.at4)
        clear SS K0 K1 K2 K3 K4
        generalize World.drewN w7 n9 = wz at K5 ⊢
        go_wp2_with fail
        go_loopg [13] (N + 2) (fun k iv wr => ∃ z : Int, z + k = N + 1 ∧ -1 ≤ z ∧ iv = .int .i64 z ∧ Hid (wr = wz))
        case atStart => exact ⟨-1, by omega, by omega, rfl, Lib.hid rfl⟩
        case round =>
          obtain ⟨z, hzk, hz1, rfl, hw0⟩ := hrel
          have hw0 := hw0.out
          subst hw0
          have hw7 : IntKind.i64.wrap (z + 1) = z + 1 := IntWalk.i64_in _ (by omega)
          have hzN : z ≤ N + 1 := by omega
          replace hzk := Lib.hid hzk
          rcases (show z ≤ (N : Int) ∨ (N : Int) < z by omega) with hz | hz
          · go_wp2_with fail
            refine (blocked13 p s1 _ w _ K5.out.at1 z).mono ?_
            rw [← hbl.out z]
            rintro e w8 ⟨rfl, rfl⟩
            go_wp2_with fail
            refine (rblocked27 q r1 _ w _ K5.out z hrl.out).mono ?_
            obtain ⟨b, hb⟩ : ∃ b, r1.blocked z = b := ⟨_, rfl⟩
            rw [hb]
            rintro e w8 ⟨rfl, rfl⟩
            go_wp2_with fail
            go_roundg (N - z).toNat
            case measure => have := hzk.out; omega
            case rel => exact ⟨z + 1, by have := hzk.out; omega, by omega, by first | rfl | (rw [hw7]), Lib.hid rfl⟩
          · go_wp2_with fail
            go_roundg (n - (j + 1))
            case measure => have := hk.out; omega
            case rel => exact ⟨j + 1, s1, r1, by have := hk.out; omega, by go_num, ⟨hsim.out, hcb.out⟩, K5⟩
    · have hj1 : decide ((j : Int) < (n : Int)) = false := by rw [decide_eq_false_iff_not]; omega
      have hj2 : decide (j < n) = false := by rw [decide_eq_false_iff_not]; omega
      clear hj
      go_wp2_with fail
      go_ret
      exact ⟨rfl, H.out.tail.tail.under_old⟩
end Go.Proofs.Ytlhgmfdmkckmhaa

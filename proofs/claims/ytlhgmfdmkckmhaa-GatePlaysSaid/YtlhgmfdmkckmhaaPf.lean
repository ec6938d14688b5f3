import Derived.Test.YtlhgmfdmkckmhaaPe
import Derived.Test.YtlhgmfdmkckmhaaProg
import Derived.Test.YtlhgmfdmkckmhaaLs
import Derived.Outline
import Derived.StillTailTactics
import Derived.Deep.DeepCutAuto
import Derived.Deep.CutBlock
import Derived.Deep.LoopGhost
import Derived.Deep.QuietTactic
import Derived.BigQuiet
import Derived.Deep.RegionHeld3
import Derived.Deep.RegionLaw
set_option linter.unusedVariables false
set_option linter.unusedSimpArgs false
namespace Go.Proofs.Ytlhgmfdmkckmhaa
open Go.RowKit
def frc (f : Fr) : Array Value := #[.int .i64 f.1, .int .i64 f.2.1.1, .int .i64 f.2.1.2.1, .int .i64 f.2.1.2.2, .int .i64 f.2.2.1, .int .u64 f.2.2.2.1, .bool f.2.2.2.2]
def Gt.bad (s : Gt) (n : Int) : Bool := n == 0 || (decide (n ≤ s.last) && n != s.under)
/-- A newer checkpoint begins. -/
def Gt.newer (s : Gt) (n : Int) (over : Bool) : Gt := if s.last < n then ⟨s.marks, List.replicate s.came.length false, List.replicate s.blk.length false, n, n, over, []⟩ else s
def Gt.came1 (s : Gt) (ch : Nat) : Gt := ⟨s.marks, s.came.set ch true, s.blk, s.under, s.last, s.over, s.cap⟩
def Gt.whole (s : Gt) : Gt := ⟨s.marks, s.came, List.replicate s.blk.length false, 0, s.last, s.over, s.cap⟩
def Gt.block (s : Gt) (ch : Nat) : Gt := ⟨s.marks, s.came, s.blk.set ch true, s.under, s.last, s.over, s.cap⟩
def Gt.tell (s : Gt) (ch : Nat) (n : Int) : Gt × Stp :=
  if s.came.getD ch false then (s, noStep) else
  let first := !has s.came true
  let t := s.came1 ch
  let all := !has t.came false
  if (t.over && first) || (!t.over && all) then (if all then (t.whole, (3, (0, 0, 0), 0, n, n)) else (t, (3, (0, 0, 0), 0, n, 0)))
  else if t.over then (if all then (t.whole, (0, (0, 0, 0), 0, 0, n)) else (t, noStep))
  else (t.block ch, noStep)
/-- What a barrier tells where it is its channel's first. -/
def Gt.tellx (t : Gt) (ch : Nat) (n : Int) : Bool → Bool → Bool → Gt × Stp
  | true, true, true => (t.whole, (3, (0, 0, 0), 0, n, n))
  | true, true, false => (t, (3, (0, 0, 0), 0, n, 0))
  | true, false, true => (t.whole, (0, (0, 0, 0), 0, 0, n))
  | true, false, false => (t, noStep)
  | false, _, true => (t.whole, (3, (0, 0, 0), 0, n, n))
  | false, _, false => (t.block ch, noStep)
theorem Gt.tell_eq (s : Gt) (ch : Nat) (n : Int) (ov fst al : Bool) (hx : s.came.getD ch false = false) (hf : has s.came true = !fst) (ho : s.over = ov) (ha : (!has (s.came1 ch).came false) = al) :
    s.tell ch n = (s.came1 ch).tellx ch n ov fst al := by
  have ho' : (s.came1 ch).over = ov := ho
  unfold Gt.tell
  rw [hx]
  simp only [hf, ho', ha, Bool.not_not]
  cases ov <;> cases fst <;> cases al <;> rfl
def Gt.barrier (s : Gt) (ch : Nat) (n : Int) (over : Bool) : Gt × Stp := if s.bad n then (s, noStep) else (s.newer n over).tell ch n
def stc (x : Stp) : Array Value := #[.int .i64 x.1, .int .i64 x.2.1.1, .int .i64 x.2.1.2.1, .int .i64 x.2.1.2.2, .int .i64 x.2.2.1, .int .u64 x.2.2.2.1, .int .u64 x.2.2.2.2]
set_option maxRecDepth 100000 in
set_option maxHeartbeats 2000000 in
theorem barrier30 (p ch : Nat) (f : Fr) (s : Gt) (w w0 : World) (R : List HP) (H : Hs w0 w (GateP p s :: R)) (hch : ch < s.came.length) (hcb : s.blk.length = s.came.length) :
    Calls Try.prog 30 #[.pointer (some ⟨p, 0, none⟩), .int .i64 ch, frv f] w fun e w' => e = .returned (stv (s.barrier ch f.2.2.2.1 f.2.2.2.2).2) ∧ Hs w0 w' (GateP p (s.barrier ch f.2.2.2.1 f.2.2.2.2).1 :: R) := by
  have H1 := (H.alloc (.cells (frc f) 31)).alloc (.cells #[.int .i64 0, .int .i64 0, .int .i64 0, .int .i64 0, .int .i64 0, .int .u64 0, .int .u64 0] 38)
  rw [show (w.alloc (.cells (frc f) 31)).heap.size = w.heap.size + 1 from Array.size_push ..] at H1
  unfold frv
  replace H1 := Lib.hid H1
  obtain ⟨n, hn⟩ : ∃ n, f.2.2.2.1 = n := ⟨_, rfl⟩
  obtain ⟨ov, hov⟩ : ∃ b, f.2.2.2.2 = b := ⟨_, rfl⟩
  rw [hn, hov]
  clear H
  have hc0 : (0 : Int) ≤ (ch : Int) := by omega
  replace hn := Lib.hid hn
  replace hov := Lib.hid hov
  go_enter Try.func30, Try.ntmps30
  go_upto_region 1 with (fail)
  unfold frc at H1
  rw [hn.out, hov.out] at H1
  generalize World.alloc _ _ = w1 at H1 ⊢
  generalize w.heap.size + 1 = br at H1 ⊢
  generalize w.heap.size = bx at H1 ⊢
  have H2 := H1.out
  obtain ⟨Am, cm, Ac, cc, Ab, cb, Ak, ck, H3⟩ := GateP.open_ H2.at2
  have p3 : w1.cell? ⟨p, 3, none⟩ = some (.int .u64 s.under) := H3.cellOf 3 rfl
  have p4 : w1.cell? ⟨p, 4, none⟩ = some (.int .u64 s.last) := H3.cellOf 4 rfl
  have x5 : w1.cell? ⟨bx, 5, none⟩ = some (.int .u64 n) := H2.at1.cellOf 5 rfl
  clear H2 H3
  go_cut [29] (fun bv wc => bv = .bool (s.bad n) ∧ ∃ k, wc = w1.drewN k)
  case first =>
    by_cases h0 : n = 0
    · have hb0 : (n == 0) = true := by rw [beq_iff_eq]; exact h0
      clear h0
      go_wp2_with fail
      go_quiet (fail)
      go_wp2_with fail
      go_meet
      case rel => exact ⟨by unfold Gt.bad; rw [hb0]; rfl, _, rfl⟩
    · have hb0 : (n == 0) = false := by rw [beq_eq_false_iff_ne]; exact h0
      clear h0
      by_cases hle : n ≤ s.last
      · have hd : decide (n ≤ s.last) = true := by simpa using hle
        clear hle
        go_wp2_with fail
        go_quiet (fail)
        go_wp2_with fail
        go_meet
        case rel => exact ⟨by unfold Gt.bad; rw [hb0, hd]; rfl, _, rfl⟩
      · have hd : decide (n ≤ s.last) = false := by simpa using hle
        clear hle
        go_wp2_with fail
        go_quiet (fail)
        go_wp2_with fail
        go_meet
        case rel => exact ⟨by unfold Gt.bad; rw [hb0, hd]; rfl, _, rfl⟩
  case rest =>
    obtain ⟨rfl, k, rfl⟩ := hcut
    clear p3 p4 x5
    have K1 := H1.out.drewN k
    generalize World.drewN w1 k = w2 at K1 ⊢
    cases hbad : s.bad n with
    | true =>
      have b0 : w2.cell? ⟨br, 0, none⟩ = some (.int .i64 0) := K1.cellOf 0 rfl
      have b1 : w2.cell? ⟨br, 1, none⟩ = some (.int .i64 0) := K1.cellOf 1 rfl
      have b2 : w2.cell? ⟨br, 2, none⟩ = some (.int .i64 0) := K1.cellOf 2 rfl
      have b3 : w2.cell? ⟨br, 3, none⟩ = some (.int .i64 0) := K1.cellOf 3 rfl
      have b4 : w2.cell? ⟨br, 4, none⟩ = some (.int .i64 0) := K1.cellOf 4 rfl
      have b5 : w2.cell? ⟨br, 5, none⟩ = some (.int .u64 0) := K1.cellOf 5 rfl
      have b6 : w2.cell? ⟨br, 6, none⟩ = some (.int .u64 0) := K1.cellOf 6 rfl
      have g0 := K1.frozenOf 0
      have g1 := K1.frozenOf 1
      have g2 := K1.frozenOf 2
      have g3 := K1.frozenOf 3
      have g4 := K1.frozenOf 4
      have g5 := K1.frozenOf 5
      have g6 := K1.frozenOf 6
      go_wp2_with fail
      have K9 := ((((((K1.setCell (i := 0) (.int .i64 0)).setCell (i := 1) (.int .i64 0)).setCell (i := 2) (.int .i64 0)).setCell (i := 3) (.int .i64 0)).setCell (i := 4) (.int .i64 0)).setCell (i := 5) (.int .u64 0)).setCell (i := 6) (.int .u64 0)
      generalize World.setCell _ _ _ = w9 at K9 ⊢
      have r0 : w9.cell? ⟨br, 0, none⟩ = some (.int .i64 0) := K9.cellOf 0 rfl
      have r1 : w9.cell? ⟨br, 1, none⟩ = some (.int .i64 0) := K9.cellOf 1 rfl
      have r2 : w9.cell? ⟨br, 2, none⟩ = some (.int .i64 0) := K9.cellOf 2 rfl
      have r3 : w9.cell? ⟨br, 3, none⟩ = some (.int .i64 0) := K9.cellOf 3 rfl
      have r4 : w9.cell? ⟨br, 4, none⟩ = some (.int .i64 0) := K9.cellOf 4 rfl
      have r5 : w9.cell? ⟨br, 5, none⟩ = some (.int .u64 0) := K9.cellOf 5 rfl
      have r6 : w9.cell? ⟨br, 6, none⟩ = some (.int .u64 0) := K9.cellOf 6 rfl
      have hb : s.barrier ch n ov = (s, noStep) := by unfold Gt.barrier; rw [hbad]; rfl
      rw [hb]
      refine bodyPost_ret (v := stv noStep) ?_ rfl ⟨rfl, K9.tail.tail⟩
      simp [results, Try.results30, go_sem, r0, r1, r2, r3, r4, r5, r6, stv, noStep]

    | false =>
      have q4 : w2.cell? ⟨p, 4, none⟩ = some (.int .u64 s.last) := by
        obtain ⟨Am, cm, Ac, cc, Ab, cb, Ak, ck, h⟩ := GateP.open_ K1.at2
        exact h.cellOf 4 rfl
      have x5 : w2.cell? ⟨bx, 5, none⟩ = some (.int .u64 n) := K1.at1.cellOf 5 rfl
      go_wp2_with fail
      go_quiet (fail)
      go_upto_if 37 with (fail)
      have x6 : w2.cell? ⟨bx, 6, none⟩ = some (.bool ov) := K1.at1.cellOf 6 rfl
      have hbn : Hid (s.barrier ch n ov = (s.newer n ov).tell ch n) := by show _ = _; unfold Gt.barrier; rw [hbad]; rfl
      clear H1 hbad
      go_cut [] (fun wc => Hid (Hs w0 wc (Blk br (.cells #[.int .i64 0, .int .i64 0, .int .i64 0, .int .i64 0, .int .i64 0, .int .u64 0, .int .u64 0] 38) :: Blk bx (.cells #[.int .i64 f.1, .int .i64 f.2.1.1, .int .i64 f.2.1.2.1, .int .i64 f.2.1.2.2, .int .i64 f.2.2.1, .int .u64 n, .bool ov] 31) :: GateP p (s.newer n ov) :: R)))
      case first =>
        by_cases hlt : s.last < n
        · have hd : decide (s.last < n) = true := by simpa using hlt
          have hnw : Hid (s.newer n ov = ⟨s.marks, List.replicate s.came.length false, List.replicate s.blk.length false, n, n, ov, []⟩) := by show _ = _; unfold Gt.newer; rw [if_pos hlt]
          clear q4
          have K2 := Lib.hid (K1.drewN nq)
          clear K1
          have y5 : (w2.drewN nq).cell? ⟨bx, 5, none⟩ = some (.int .u64 n) := K2.out.at1.cellOf 5 rfl
          have y6 : (w2.drewN nq).cell? ⟨bx, 6, none⟩ = some (.bool ov) := K2.out.at1.cellOf 6 rfl
          generalize World.drewN w2 nq = w3 at *
          clear x5 x6
          go_wp2_with fail
          refine (begin34 p s w3 w0 _ K2.out.at2 n ov).mono ?_
          rintro e w4 ⟨rfl, K3⟩
          obtain ⟨Am, cm, Ac, cc, Ab, cb, Ak, ck, K4⟩ := GateP.open_ K3
          have f4 := K4.frozenOf 4
          have d4 := K4.cellOf 4 rfl
          have z5 : w4.cell? ⟨bx, 5, none⟩ = some (.int .u64 n) := K3.at2.cellOf 5 rfl
          have K5 := Lib.hid (K4.setCell (i := 4) (.int .u64 n))
          clear K2 K3 K4 y5 y6
          go_wp2_with fail
          go_meet
          case rel =>
            rw [hnw.out]
            exact Lib.hid (GateP.mk_ (s := ⟨s.marks, List.replicate s.came.length false, List.replicate s.blk.length false, n, n, ov, []⟩) K5.out).at2.at2
        · have hd : decide (s.last < n) = false := by simpa using hlt
          have hnw : Hid (s.newer n ov = s) := by show _ = _; unfold Gt.newer; rw [if_neg hlt]
          have hle : n ≤ s.last := by omega
          clear hlt q4
          go_wp2_with fail
          go_meet
          case rel =>
            rw [hnw.out]
            exact Lib.hid (K1.drewN nq)
      case rest =>
        clear x5 x6 q4 K1
        have h1c : ch < (s.newer n ov).came.length := by unfold Gt.newer; split <;> simpa using hch
        have h1b : (s.newer n ov).blk.length = (s.newer n ov).came.length := by unfold Gt.newer; split <;> simpa using hcb
        obtain ⟨s1, hs1⟩ : ∃ s1, s.newer n ov = s1 := ⟨_, rfl⟩
        rw [hs1] at hbn hcut h1c h1b
        clear hs1 hch hcb
        have K2 := hcut.out
        clear hcut
        obtain ⟨x, hx⟩ : ∃ x, s1.came[ch]? = some x := ⟨_, List.getElem?_eq_getElem h1c⟩
        have hxd : Hid (s1.came.getD ch false = x) := by show _ = _; simp [List.getD, hx]
        obtain ⟨Am, cm, Ac, cc, Ab, cb, Ak, ck, K3⟩ := GateP.open_ K2.at2
        obtain ⟨g, off, rfl⟩ := K3.at2.ls_rd.some_ (by omega)
        have k1 : wc.cell? ⟨p, 1, none⟩ = some (.slice (some ⟨g, off, none⟩) s1.came.length cc) := K3.cellOf 1 rfl
        have cx : wc.cell? ⟨g, off + ch, none⟩ = some (.bool x) := by have := K3.at2.ls_rd.cell hx 0 rfl; simpa [Enc.flag] using this
        have hcc := K3.at2.ls_rd.caps.2
        have hc1 : (ch : Int) < (s1.came.length : Int) := by omega
        cases x with
        | true =>
          clear K3
          have b0 : wc.cell? ⟨br, 0, none⟩ = some (.int .i64 0) := K2.cellOf 0 rfl
          have b1 : wc.cell? ⟨br, 1, none⟩ = some (.int .i64 0) := K2.cellOf 1 rfl
          have b2 : wc.cell? ⟨br, 2, none⟩ = some (.int .i64 0) := K2.cellOf 2 rfl
          have b3 : wc.cell? ⟨br, 3, none⟩ = some (.int .i64 0) := K2.cellOf 3 rfl
          have b4 : wc.cell? ⟨br, 4, none⟩ = some (.int .i64 0) := K2.cellOf 4 rfl
          have b5 : wc.cell? ⟨br, 5, none⟩ = some (.int .u64 0) := K2.cellOf 5 rfl
          have b6 : wc.cell? ⟨br, 6, none⟩ = some (.int .u64 0) := K2.cellOf 6 rfl
          have g0 := K2.frozenOf 0
          have g1 := K2.frozenOf 1
          have g2 := K2.frozenOf 2
          have g3 := K2.frozenOf 3
          have g4 := K2.frozenOf 4
          have g5 := K2.frozenOf 5
          have g6 := K2.frozenOf 6
          replace K2 := Lib.hid K2
          clear hx h1c h1b
          go_wp2_with fail
          replace K2 := K2.out
          have K9 := ((((((K2.setCell (i := 0) (.int .i64 0)).setCell (i := 1) (.int .i64 0)).setCell (i := 2) (.int .i64 0)).setCell (i := 3) (.int .i64 0)).setCell (i := 4) (.int .i64 0)).setCell (i := 5) (.int .u64 0)).setCell (i := 6) (.int .u64 0)
          generalize World.setCell _ _ _ = w9 at K9 ⊢
          have r0 : w9.cell? ⟨br, 0, none⟩ = some (.int .i64 0) := K9.cellOf 0 rfl
          have r1 : w9.cell? ⟨br, 1, none⟩ = some (.int .i64 0) := K9.cellOf 1 rfl
          have r2 : w9.cell? ⟨br, 2, none⟩ = some (.int .i64 0) := K9.cellOf 2 rfl
          have r3 : w9.cell? ⟨br, 3, none⟩ = some (.int .i64 0) := K9.cellOf 3 rfl
          have r4 : w9.cell? ⟨br, 4, none⟩ = some (.int .i64 0) := K9.cellOf 4 rfl
          have r5 : w9.cell? ⟨br, 5, none⟩ = some (.int .u64 0) := K9.cellOf 5 rfl
          have r6 : w9.cell? ⟨br, 6, none⟩ = some (.int .u64 0) := K9.cellOf 6 rfl
          have hb : s1.tell ch n = (s1, noStep) := by unfold Gt.tell; rw [hxd.out]; rfl
          rw [hbn.out, hb]
          refine bodyPost_ret (v := stv noStep) ?_ rfl ⟨rfl, K9.tail.tail⟩
          simp [results, Try.results30, go_sem, r0, r1, r2, r3, r4, r5, r6, stv, noStep]

        | false =>
          have fg := K3.at2.ls_frozen (off + ch)
          have hr := Lib.hid K3.at2.ls_rd
          clear K2
          replace K3 := Lib.hid K3
          clear hx
          replace h1c := Lib.hid h1c
          replace h1b := Lib.hid h1b
          obtain ⟨fst, hfst⟩ : ∃ b, has s1.came true = !b := ⟨!has s1.came true, by simp⟩
          go_wp2_with fail
          refine (contains36 (some ⟨g, off, none⟩) _ cc true s1.came wc hr.out).mono ?_
          rw [hfst]
          rintro e w3 ⟨rfl, rfl⟩
          go_upto_block 0 with fail
          have K4 := K3.out.at2.ls_set rfl ch h1c.out true (.bool true) rfl
          have K4 := GateP.mk_ (s := s1.came1 ch) K4.at4.at4.at2.at4.at4
          have hte := fun ov al h1 h2 => Lib.hid (s1.tell_eq ch n ov fst al hxd.out hfst h1 h2)
          have K5 := K4.alloc (.cells #[.int .i64 0, .int .i64 0, .int .i64 0, .int .i64 0, .int .i64 0, .int .u64 0, .int .u64 0] 38)
          generalize World.alloc _ _ = w4 at K5 ⊢
          rw [show (wc.setCell ⟨g, off + ch, none⟩ (.bool true)).heap.size = wc.heap.size by simp] at K5
          generalize wc.heap.size = bs at K5 ⊢
          clear K4 K3 k1 cx fg hr hcc hc1 hfst
          obtain ⟨t, ht⟩ : ∃ t, s1.came1 ch = t := ⟨_, rfl⟩
          have hto : t.over = s1.over := by rw [← ht]; rfl
          have htc : ch < t.blk.length := by rw [← ht]; show ch < s1.blk.length; rw [h1b.out]; exact h1c.out
          rw [ht] at K5
          replace hte : Hid (∀ ov al, t.over = ov → (!has t.came false) = al → s1.tell ch n = t.tellx ch n ov fst al) := by
            show ∀ _, _
            intro ov al h1 h2
            rw [hto] at h1
            rw [← ht] at h2 ⊢
            exact (hte ov al h1 h2).out
          replace ht := Lib.hid ht
          clear hto
          replace htc := Lib.hid htc
          replace K5 := Lib.hid K5
          go_cut [] (fun wx => Hid (Hs w0 wx (Blk bs (.cells (stc (s1.tell ch n).2) 38) :: GateP p (s1.tell ch n).1 :: Blk br (.cells #[.int .i64 0, .int .i64 0, .int .i64 0, .int .i64 0, .int .i64 0, .int .u64 0, .int .u64 0] 38) :: Blk bx (.cells #[.int .i64 f.1, .int .i64 f.2.1.1, .int .i64 f.2.1.2.1, .int .i64 f.2.1.2.2, .int .i64 f.2.2.1, .int .u64 n, .bool ov] 31) :: R)))
          case first =>
            have K6 := K5.out
            clear K5
            obtain ⟨al, hal⟩ : ∃ b, (!has t.came false) = b := ⟨_, rfl⟩
            obtain ⟨ov1, hov1⟩ : ∃ b, t.over = b := ⟨_, rfl⟩
            replace hte := Lib.hid (hte.out ov1 al hov1 hal)
            replace hal := Lib.hid hal
            obtain ⟨Am, cm, Ac, cc, Ab, cb, Ak, ck, K7⟩ := GateP.open_ K6.at1
            have k5 : w4.cell? ⟨p, 5, none⟩ = some (.bool t.over) := K7.cellOf 5 rfl
            rw [hov1] at k5
            clear hov1
            have x5 : w4.cell? ⟨bx, 5, none⟩ = some (.int .u64 n) := K6.at3.cellOf 5 rfl
            cases ov1 with
            | true =>
              clear K7
              cases fst with
              | true =>
                have b0 : w4.cell? ⟨bs, 0, none⟩ = some (.int .i64 0) := K6.cellOf 0 rfl
                have b1 : w4.cell? ⟨bs, 1, none⟩ = some (.int .i64 0) := K6.cellOf 1 rfl
                have b2 : w4.cell? ⟨bs, 2, none⟩ = some (.int .i64 0) := K6.cellOf 2 rfl
                have b3 : w4.cell? ⟨bs, 3, none⟩ = some (.int .i64 0) := K6.cellOf 3 rfl
                have b4 : w4.cell? ⟨bs, 4, none⟩ = some (.int .i64 0) := K6.cellOf 4 rfl
                have b5 : w4.cell? ⟨bs, 5, none⟩ = some (.int .u64 0) := K6.cellOf 5 rfl
                have b6 : w4.cell? ⟨bs, 6, none⟩ = some (.int .u64 0) := K6.cellOf 6 rfl
                have g0 := K6.frozenOf 0
                have g1 := K6.frozenOf 1
                have g2 := K6.frozenOf 2
                have g3 := K6.frozenOf 3
                have g4 := K6.frozenOf 4
                have g5 := K6.frozenOf 5
                have g6 := K6.frozenOf 6
                go_wp2_with fail
                have K8 := (((((((K6.setCell (i := 0) (.int .i64 3)).setCell (i := 1) (.int .i64 0)).setCell (i := 2) (.int .i64 0)).setCell (i := 3) (.int .i64 0)).setCell (i := 4) (.int .i64 0)).setCell (i := 5) (.int .u64 n)).setCell (i := 6) (.int .u64 0))
                generalize World.setCell _ _ _ = w5 at K8 ⊢
                clear b0 g0 b1 g1 b2 g2 b3 g3 b4 g4 b5 g5 b6 g6
                cases al with
                | true =>
                  refine (all37 p t w5 w0 _ K8.at1).mono ?_
                  rw [hal.out]
                  rintro e wq ⟨rfl, rfl⟩
                  have f6 := K8.frozenOf 6
                  have d6 := K8.cellOf 6 rfl
                  have x5' : w5.cell? ⟨bx, 5, none⟩ = some (.int .u64 n) := K8.at3.cellOf 5 rfl
                  have L1 := K8.setCell (i := 6) (.int .u64 n)
                  go_upto_region 17 with (fail)
                  generalize World.setCell w5 _ _ = v1 at L1 ⊢
                  clear f6 d6 x5'
                  obtain ⟨Bm, dm, Bc, dc, Bb, db, Bk, dk, L2⟩ := GateP.open_ L1.at1
                  have f3 := L2.frozenOf 3
                  have d3 := L2.cellOf 3 rfl
                  have L3 := L2.setCell (i := 3) (.int .u64 0)
                  go_upto_region 18 with (fail)
                  generalize World.setCell v1 _ _ = v2 at L3 ⊢
                  clear f3 d3
                  have k2 : v2.cell? ⟨p, 2, none⟩ = some (.slice Bb t.blk.length db) := L3.cellOf 2 rfl
                  obtain ⟨v3, hrun, L4⟩ := run_clear_own (P := Try.prog) (E := Enc.flag) L3.at3 44 0 false (.bool false) rfl rfl Try.underlying44 zeroB rfl rfl
                  replace L4 := Lib.hid L4
                  clear L1 L2 L3
                  go_wp2_with fail
                  go_meet
                  case rel =>
                    rw [hte.out]
                    have L5 := GateP.mk_ (s := t.whole) L4.out.at4.at1.at4.at4.at4
                    exact Lib.hid L5.at1
                | false =>
                  refine (all37 p t w5 w0 _ K8.at1).mono ?_
                  rw [hal.out]
                  rintro e wq ⟨rfl, rfl⟩
                  go_wp2_with fail
                  go_meet
                  case rel =>
                    rw [hte.out]
                    exact Lib.hid K8
              | false =>
                go_wp2_with fail
                cases al with
                | true =>
                  refine (all37 p t w4 w0 _ K6.at1).mono ?_
                  rw [hal.out]
                  rintro e wq ⟨rfl, rfl⟩
                  have f6 := K6.frozenOf 6
                  have d6 := K6.cellOf 6 rfl
                  have x5' : w4.cell? ⟨bx, 5, none⟩ = some (.int .u64 n) := K6.at3.cellOf 5 rfl
                  have L1 := K6.setCell (i := 6) (.int .u64 n)
                  go_upto_region 17 with (fail)
                  generalize World.setCell w4 _ _ = v1 at L1 ⊢
                  clear f6 d6 x5'
                  obtain ⟨Bm, dm, Bc, dc, Bb, db, Bk, dk, L2⟩ := GateP.open_ L1.at1
                  have f3 := L2.frozenOf 3
                  have d3 := L2.cellOf 3 rfl
                  have L3 := L2.setCell (i := 3) (.int .u64 0)
                  go_upto_region 18 with (fail)
                  generalize World.setCell v1 _ _ = v2 at L3 ⊢
                  clear f3 d3
                  have k2 : v2.cell? ⟨p, 2, none⟩ = some (.slice Bb t.blk.length db) := L3.cellOf 2 rfl
                  obtain ⟨v3, hrun, L4⟩ := run_clear_own (P := Try.prog) (E := Enc.flag) L3.at3 44 0 false (.bool false) rfl rfl Try.underlying44 zeroB rfl rfl
                  replace L4 := Lib.hid L4
                  clear L1 L2 L3
                  go_wp2_with fail
                  go_meet
                  case rel =>
                    rw [hte.out]
                    have L5 := GateP.mk_ (s := t.whole) L4.out.at4.at1.at4.at4.at4
                    exact Lib.hid L5.at1
                | false =>
                  refine (all37 p t w4 w0 _ K6.at1).mono ?_
                  rw [hal.out]
                  rintro e wq ⟨rfl, rfl⟩
                  go_wp2_with fail
                  go_meet
                  case rel =>
                    rw [hte.out]
                    exact Lib.hid K6
            | false =>
              go_wp2_with fail
              refine (all37 p t w4 w0 _ K6.at1).mono ?_
              rw [hal.out]
              rintro e wq ⟨rfl, rfl⟩
              cases al with
              | true =>
                clear K7
                have b0 : w4.cell? ⟨bs, 0, none⟩ = some (.int .i64 0) := K6.cellOf 0 rfl
                have b1 : w4.cell? ⟨bs, 1, none⟩ = some (.int .i64 0) := K6.cellOf 1 rfl
                have b2 : w4.cell? ⟨bs, 2, none⟩ = some (.int .i64 0) := K6.cellOf 2 rfl
                have b3 : w4.cell? ⟨bs, 3, none⟩ = some (.int .i64 0) := K6.cellOf 3 rfl
                have b4 : w4.cell? ⟨bs, 4, none⟩ = some (.int .i64 0) := K6.cellOf 4 rfl
                have b5 : w4.cell? ⟨bs, 5, none⟩ = some (.int .u64 0) := K6.cellOf 5 rfl
                have b6 : w4.cell? ⟨bs, 6, none⟩ = some (.int .u64 0) := K6.cellOf 6 rfl
                have g0 := K6.frozenOf 0
                have g1 := K6.frozenOf 1
                have g2 := K6.frozenOf 2
                have g3 := K6.frozenOf 3
                have g4 := K6.frozenOf 4
                have g5 := K6.frozenOf 5
                have g6 := K6.frozenOf 6
                go_wp2_with fail
                have K8 := (((((((K6.setCell (i := 0) (.int .i64 3)).setCell (i := 1) (.int .i64 0)).setCell (i := 2) (.int .i64 0)).setCell (i := 3) (.int .i64 0)).setCell (i := 4) (.int .i64 0)).setCell (i := 5) (.int .u64 n)).setCell (i := 6) (.int .u64 0))
                generalize World.setCell _ _ _ = w5 at K8 ⊢
                clear b0 g0 b1 g1 b2 g2 b3 g3 b4 g4 b5 g5 b6 g6
                refine (all37 p t w5 w0 _ K8.at1).mono ?_
                rw [hal.out]
                rintro e wq ⟨rfl, rfl⟩
                have f6 := K8.frozenOf 6
                have d6 := K8.cellOf 6 rfl
                have x5' : w5.cell? ⟨bx, 5, none⟩ = some (.int .u64 n) := K8.at3.cellOf 5 rfl
                have L1 := K8.setCell (i := 6) (.int .u64 n)
                go_upto_region 17 with (fail)
                generalize World.setCell w5 _ _ = v1 at L1 ⊢
                clear f6 d6 x5'
                obtain ⟨Bm, dm, Bc, dc, Bb, db, Bk, dk, L2⟩ := GateP.open_ L1.at1
                have f3 := L2.frozenOf 3
                have d3 := L2.cellOf 3 rfl
                have L3 := L2.setCell (i := 3) (.int .u64 0)
                go_upto_region 18 with (fail)
                generalize World.setCell v1 _ _ = v2 at L3 ⊢
                clear f3 d3
                have k2 : v2.cell? ⟨p, 2, none⟩ = some (.slice Bb t.blk.length db) := L3.cellOf 2 rfl
                obtain ⟨v3, hrun, L4⟩ := run_clear_own (P := Try.prog) (E := Enc.flag) L3.at3 44 0 false (.bool false) rfl rfl Try.underlying44 zeroB rfl rfl
                replace L4 := Lib.hid L4
                clear L1 L2 L3
                go_wp2_with fail
                go_meet
                case rel =>
                  rw [hte.out]
                  have L5 := GateP.mk_ (s := t.whole) L4.out.at4.at1.at4.at4.at4
                  exact Lib.hid L5.at1
              | false =>
                clear K6
                obtain ⟨g2, o2, rfl⟩ := K7.at3.ls_rd.some_ (by have := htc.out; omega)
                have k2 : w4.cell? ⟨p, 2, none⟩ = some (.slice (some ⟨g2, o2, none⟩) t.blk.length cb) := K7.cellOf 2 rfl
                obtain ⟨y, hy⟩ : ∃ y, t.blk[ch]? = some y := ⟨_, List.getElem?_eq_getElem htc.out⟩
                have cy : w4.cell? ⟨g2, o2 + ch, none⟩ = some (.bool y) := by have := K7.at3.ls_rd.cell hy 0 rfl; simpa [Enc.flag] using this
                have fy := K7.at3.ls_frozen (o2 + ch)
                have hcb := K7.at3.ls_rd.caps.2
                have hc2 : (ch : Int) < (t.blk.length : Int) := by have := htc.out; omega
                clear hy
                have L1 := Lib.hid (K7.at3.ls_set rfl ch htc.out true (.bool true) rfl)
                clear K7
                go_wp2_with fail
                go_meet
                case rel =>
                  rw [hte.out]
                  have L5 := GateP.mk_ (s := t.block ch) L1.out.at4.at1.at4.at4.at4
                  exact Lib.hid L5.at1

          case rest =>
            have K6 := hcut.out
            clear hcut K5 hte ht htc
            obtain ⟨q, hq⟩ : ∃ q, s1.tell ch n = q := ⟨_, rfl⟩
            rw [hq] at K6
            obtain ⟨sq, x0, ⟨x1, x2, x3⟩, x4, x5, x6⟩ := q
            unfold stc at K6
            dsimp only at K6
            have e0 : wc.cell? ⟨bs, 0, none⟩ = some (.int .i64 x0) := K6.cellOf 0 rfl
            have e1 : wc.cell? ⟨bs, 1, none⟩ = some (.int .i64 x1) := K6.cellOf 1 rfl
            have e2 : wc.cell? ⟨bs, 2, none⟩ = some (.int .i64 x2) := K6.cellOf 2 rfl
            have e3 : wc.cell? ⟨bs, 3, none⟩ = some (.int .i64 x3) := K6.cellOf 3 rfl
            have e4 : wc.cell? ⟨bs, 4, none⟩ = some (.int .i64 x4) := K6.cellOf 4 rfl
            have e5 : wc.cell? ⟨bs, 5, none⟩ = some (.int .u64 x5) := K6.cellOf 5 rfl
            have e6 : wc.cell? ⟨bs, 6, none⟩ = some (.int .u64 x6) := K6.cellOf 6 rfl
            have b0 : wc.cell? ⟨br, 0, none⟩ = some (.int .i64 0) := K6.at2.cellOf 0 rfl
            have b1 : wc.cell? ⟨br, 1, none⟩ = some (.int .i64 0) := K6.at2.cellOf 1 rfl
            have b2 : wc.cell? ⟨br, 2, none⟩ = some (.int .i64 0) := K6.at2.cellOf 2 rfl
            have b3 : wc.cell? ⟨br, 3, none⟩ = some (.int .i64 0) := K6.at2.cellOf 3 rfl
            have b4 : wc.cell? ⟨br, 4, none⟩ = some (.int .i64 0) := K6.at2.cellOf 4 rfl
            have b5 : wc.cell? ⟨br, 5, none⟩ = some (.int .u64 0) := K6.at2.cellOf 5 rfl
            have b6 : wc.cell? ⟨br, 6, none⟩ = some (.int .u64 0) := K6.at2.cellOf 6 rfl
            have g0 := K6.at2.frozenOf 0
            have g1 := K6.at2.frozenOf 1
            have g2 := K6.at2.frozenOf 2
            have g3 := K6.at2.frozenOf 3
            have g4 := K6.at2.frozenOf 4
            have g5 := K6.at2.frozenOf 5
            have g6 := K6.at2.frozenOf 6
            go_wp2_with fail
            have K9 := (((((((K6.at2.setCell (i := 0) (.int .i64 x0)).setCell (i := 1) (.int .i64 x1)).setCell (i := 2) (.int .i64 x2)).setCell (i := 3) (.int .i64 x3)).setCell (i := 4) (.int .i64 x4)).setCell (i := 5) (.int .u64 x5)).setCell (i := 6) (.int .u64 x6))
            generalize World.setCell _ _ _ = w9 at K9 ⊢
            simp only [List.setIfInBounds_toArray, List.set_cons_zero, List.set_cons_succ] at K9
            have r0 : w9.cell? ⟨br, 0, none⟩ = some (.int .i64 x0) := K9.cellOf 0 rfl
            have r1 : w9.cell? ⟨br, 1, none⟩ = some (.int .i64 x1) := K9.cellOf 1 rfl
            have r2 : w9.cell? ⟨br, 2, none⟩ = some (.int .i64 x2) := K9.cellOf 2 rfl
            have r3 : w9.cell? ⟨br, 3, none⟩ = some (.int .i64 x3) := K9.cellOf 3 rfl
            have r4 : w9.cell? ⟨br, 4, none⟩ = some (.int .i64 x4) := K9.cellOf 4 rfl
            have r5 : w9.cell? ⟨br, 5, none⟩ = some (.int .u64 x5) := K9.cellOf 5 rfl
            have r6 : w9.cell? ⟨br, 6, none⟩ = some (.int .u64 x6) := K9.cellOf 6 rfl
            rw [hbn.out, hq]
            refine bodyPost_ret (v := stv (x0, (x1, x2, x3), x4, x5, x6)) ?_ rfl ⟨rfl, K9.tail.tail.at1.tail⟩
            simp [results, Try.results30, go_sem, r0, r1, r2, r3, r4, r5, r6, stv]

end Go.Proofs.Ytlhgmfdmkckmhaa

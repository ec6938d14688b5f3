import Derived.Test.YtlhgmfdmkckmhaaMa
import Derived.Test.YtlhgmfdmkckmhaaEq
import Derived.Test.YtlhgmfdmkckmhaaPn
import Derived.IntWalk
import Derived.Laws.MakeOwn
import Derived.Test.YtlhgmfdmkckmhaaProg
import Derived.Test.YtlhgmfdmkckmhaaLs
import Derived.Outline
import Derived.StillTailTactics
import Derived.Deep.DeepCutAuto
import Derived.Deep.CutBlock
import Derived.Deep.LoopGhost
import Derived.Deep.QuietTactic
import Derived.BigQuiet
import Derived.Deep.RegionHeld3
import Derived.Deep.RegionLaw
set_option linter.unusedVariables false
set_option linter.unusedSimpArgs false
namespace Go.Proofs.Ytlhgmfdmkckmhaa
open Go.RowKit
abbrev StepRow := Int × Fr × Bool × Slc
abbrev EStep : Enc StepRow := (Enc.num .i64).pair (EFr.pair (Enc.flag.pair Enc.slc))
/-- A step's cells. -/
theorem step_cells {w : World} {g off n c : Nat} {xs : List StepRow} {k : Nat} {ch fk r0 r1 r2 mk nn : Int} {ov ld : Bool} {sl : Slc} (H : RdL EStep w (.slice (some ⟨g, off, none⟩) n c) xs) (hx : xs[k]? = some (ch, (fk, (r0, r1, r2), mk, nn, ov), ld, sl)) :
    w.cell? ⟨g, off + k * 10, none⟩ = some (.int .i64 ch) ∧ w.cell? ⟨g, off + k * 10 + 1, none⟩ = some (.int .i64 fk) ∧ w.cell? ⟨g, off + k * 10 + 2, none⟩ = some (.int .i64 r0) ∧ w.cell? ⟨g, off + k * 10 + 3, none⟩ = some (.int .i64 r1) ∧ w.cell? ⟨g, off + k * 10 + 4, none⟩ = some (.int .i64 r2) ∧
    w.cell? ⟨g, off + k * 10 + 5, none⟩ = some (.int .i64 mk) ∧ w.cell? ⟨g, off + k * 10 + 6, none⟩ = some (.int .u64 nn) ∧ w.cell? ⟨g, off + k * 10 + 7, none⟩ = some (.bool ov) ∧ w.cell? ⟨g, off + k * 10 + 8, none⟩ = some (.bool ld) ∧ w.cell? ⟨g, off + k * 10 + 9, none⟩ = some (.slice sl.1 sl.2.1 sl.2.2) :=
  ⟨H.cell hx 0 rfl, H.cell hx 1 rfl, H.cell hx 2 rfl, H.cell hx 3 rfl, H.cell hx 4 rfl, H.cell hx 5 rfl, H.cell hx 6 rfl, H.cell hx 7 rfl, H.cell hx 8 rfl, H.cell hx 9 rfl⟩
set_option maxRecDepth 100000 in
set_option maxHeartbeats 4000000 in
theorem gatemarks_walk (n0 : Int) (A : Option Addr) (n c : Nat) (xs : List StepRow) (w : World) (hn : (Lit.int .i64 n0).wf = true) (hr : RdL EStep w (.slice A n c) xs) (hok : ∀ x ∈ xs, True) :
    Calls Try.prog 5 #[.int .i64 n0, .slice A n c] w fun e w' => e = .returned (.bool true) ∧ Below w.heap.size w w' := by
  clear hn hok
  obtain ⟨m, hm⟩ : ∃ m : Nat, n0 % 8 = (m : Int) := ⟨(n0 % 8).toNat, by omega⟩
  obtain ⟨N, hN⟩ : ∃ N, N = m + 1 := ⟨_, rfl⟩
  have hw1 : IntKind.i64.wrap (1 + (m : Int)) = (N : Int) := by rw [IntWalk.i64_in _ (by omega)]; omega
  have hN8 : N ≤ 8 := by omega
  have hN1 : 1 ≤ N := by omega
  have hNp : (0 : Int) < (N : Int) := by omega
  have hNm : (N : Int) ≤ 1000000 := by omega
  replace hm := Lib.hid hm
  clear hN
  have hcap := hr.caps.2
  have hnl := Lib.hid hr.caps.1
  replace hr := Lib.hid hr
  have hmk : ∀ w, (Instr.makeSlice 50 (.int .i64 (N : Int)) (.int .i64 (N : Int))).run Try.prog w = .ok (.slice (some ⟨w.heap.size, 0, none⟩) N N) (w.alloc (.cells (madeCells #[.int .i64 0] N) 2)) := run_make_row' (P := Try.prog) 50 2 (.int .i64 0) 8 Try.underlying50 infoI rfl .i64 .i64 N (by omega) (by omega)
  rcases (show (300 : Int) < (n : Int) ∨ (n : Int) ≤ 300 by omega) with h3 | h3
  · go_enter Try.func5, Try.ntmps5
    go_wp2_with fail
    refine (known8 w w _ (Hs.start w)).mono ?_
    rintro e w1 ⟨rfl, H⟩
    go_wp2_with fail
    go_ret
    exact ⟨rfl, H.under_old⟩
  go_enter Try.func5, Try.ntmps5
  go_wp2_with fail
  refine (known8 w w _ (Hs.start w)).mono ?_
  rintro e w1 ⟨rfl, H⟩
  go_wp2_with fail
  refine (place9 n0 8 _ (by omega) (by omega)).mono ?_
  rw [hm.out]
  rintro e w2 ⟨rfl, rfl⟩
  go_wp2_with fail
  refine (new12 N _ w _ H).mono ?_
  rintro e w1 ⟨p, rfl, H⟩
  have hnew : Gt.new (N : Int) = Gt.fresh N := by unfold Gt.new; rw [show (min (max (N : Int) 1) 64).toNat = N from by omega]
  rw [hnew] at H
  clear hnew
  go_wp2_with fail
  have H2 : Hid (Hs w (w1.alloc (.cells (madeCells #[.int .i64 0] N) 2)) [Ls (Enc.num .i64) 2 (.slice (some ⟨w1.heap.size, 0, none⟩) N N) (List.replicate N 0), GateP p (Gt.fresh N), Old w]) := H.ls_made 2 0 (.int .i64 0) rfl N (by omega)
  clear H hmk
  generalize World.alloc w1 _ = w2 at *
  generalize w1.heap.size = gm at *
  go_loopg [7] N (fun k iv wr => ∃ (j : Nat) (M : List Int), k + j = N ∧ iv = .int .i64 j ∧ Hid (M.length = N) ∧ Hid (M.take j = List.replicate j minMark) ∧ Hid (Hs w wr [Ls (Enc.num .i64) 2 (.slice (some ⟨gm, 0, none⟩) N N) M, GateP p (Gt.fresh N), Old w]))
  case atStart => exact ⟨0, _, rfl, rfl, by show _ = _; simp, by show _ = _; simp, H2⟩
  case round =>
    clear H2
    obtain ⟨j, M, hk, rfl, hM, hT, H⟩ := hrel
    replace hk := Lib.hid hk
    rcases Nat.lt_or_ge j N with hj | hj
    · have hj0 : (0 : Int) ≤ (j : Int) := by omega
      have hj1 : (j : Int) < (N : Int) := by omega
      have hw6 : IntKind.i64.wrap ((j : Int) + 1) = ((j + 1 : Nat) : Int) := by rw [IntWalk.i64_in _ (by omega)]; omega
      have hjM : j < M.length := by have := hM.out; omega
      have s0 : wr.cell? ⟨gm, j, none⟩ = some (.int .i64 M[j]) := by have := H.out.ls_rd.cell (i := j) (List.getElem?_eq_getElem hjM) 0 rfl; simpa [Enc.num] using this
      have f0 := H.out.ls_frozen j
      have H1 := Lib.hid (H.out.ls_set0 rfl j hj (-9223372036854775808) (.int .i64 (-9223372036854775808)) rfl)
      have hM1 : Hid ((M.set j (-9223372036854775808)).length = N) := by show _ = _; rw [List.length_set]; exact hM.out
      have hT1 : Hid ((M.set j (-9223372036854775808)).take (j + 1) = List.replicate (j + 1) minMark) := by
        show _ = _
        rw [set_take _ _ _ hjM, hT.out, List.replicate_succ']
        rfl
      clear H
      go_wp2_with fail
      go_roundg (N - (j + 1))
      case measure => have := hk.out; omega
      case rel => exact ⟨j + 1, _, by have := hk.out; omega, by go_num, hM1, hT1, H1⟩
    · have hj1 : decide ((j : Int) < (N : Int)) = false := by rw [decide_eq_false_iff_not]; omega
      have hj2 : decide (j < N) = false := by rw [decide_eq_false_iff_not]; omega
      have hMe : M = (Gt.fresh N).marks := by
        have h := hT.out
        have hjN : j = N := by have := hk.out; omega
        rw [List.take_of_length_le (by have := hM.out; omega), hjN] at h
        rw [h]
        show _ = (List.range N).map fun i => ([] : List Int).getD i minMark
        apply List.ext_getElem
        · simp
        · intro i h1 h2; simp [List.getD]
      rw [hMe] at H
      clear hMe hM hT hj hk M
      go_wp2_with fail
      clear hj1 hj2
      have hok0 : Hid ((Gt.fresh N).Ok N ∧ (Gt.fresh N).cap.length ≤ 0) := by show _ ∧ _; simp [Gt.fresh, Gt.Ok, loaded]
      go_loopg [8] n (fun k iv wr => ∃ (j : Nat) (s : Gt), k + j = n ∧ iv = .int .i64 j ∧ Hid (s.Ok N ∧ s.cap.length ≤ j) ∧ Hid (Hs w wr [Ls (Enc.num .i64) 2 (.slice (some ⟨gm, 0, none⟩) N N) s.marks, GateP p s, Old w]))
      case atStart => exact ⟨0, _, rfl, rfl, hok0, H⟩
      case round =>
        clear H hok0
        obtain ⟨j, s, hk, rfl, hok, H⟩ := hrel
        replace hk := Lib.hid hk
        rcases Nat.lt_or_ge j n with hj | hj
        · have hj0 : (0 : Int) ≤ (j : Int) := by omega
          have hj1 : (j : Int) < (n : Int) := by omega
          have hw6 : IntKind.i64.wrap ((j : Int) + 1) = ((j + 1 : Nat) : Int) := by rw [IntWalk.i64_in _ (by omega)]; omega
          obtain ⟨x, hx⟩ : ∃ x, xs[j]? = some x := ⟨_, List.getElem?_eq_getElem (by have := hnl.out; omega)⟩
          have hrd := hr.out.old H.out.at2
          obtain ⟨g, off, rfl⟩ := hrd.some_ (by have := hnl.out; omega)
          obtain ⟨ch, ⟨fk, ⟨q0, q1, q2⟩, mk, nn, ov⟩, ld, sl⟩ := x
          obtain ⟨e0, e1, e2, e3, e4, e5, e6, e7, e8, _⟩ := step_cells hrd hx
          obtain ⟨ci, hci⟩ : ∃ ci : Nat, ch % (N : Int) = (ci : Int) := ⟨(ch % (N : Int)).toNat, by have := Int.emod_nonneg ch (show (N : Int) ≠ 0 by omega); omega⟩
          have hcN : ci < N := by have := Int.emod_lt_of_pos ch hNp; omega
          have hci0 : (0 : Int) ≤ (ci : Int) := by omega
          have hci1 : (ci : Int) < (N : Int) := by omega
          replace hci := Lib.hid hci
          have hrd' := Lib.hid hrd
          clear hrd
          replace hx := Lib.hid hx
          cases ld with
          | true =>
            go_wp2_with fail
            refine (place9 ch N _ hNp hNm).mono ?_
            rw [hci.out]
            rintro e w5 ⟨rfl, rfl⟩
            go_wp2_with fail
            go_roundg (n - (j + 1))
            case measure => have := hk.out; omega
            case rel => exact ⟨j + 1, s, by have := hk.out; omega, by go_num, ⟨hok.out.1, by have := hok.out.2; omega⟩, H⟩
          | false =>
            go_wp2_with fail
            refine (place9 ch N _ hNp hNm).mono ?_
            rw [hci.out]
            rintro e w5 ⟨rfl, rfl⟩
            go_wp2_with fail
            refine (blocked13 p s _ w _ H.out.at1 ci).mono ?_
            cases hbk : s.blocked (ci : Int) with
            | true =>
              rintro e w5 ⟨rfl, rfl⟩
              go_wp2_with fail
              go_roundg (n - (j + 1))
              case measure => have := hk.out; omega
              case rel => exact ⟨j + 1, s, by have := hk.out; omega, by go_num, ⟨hok.out.1, by have := hok.out.2; omega⟩, H⟩
            | false =>
              rintro e w5 ⟨rfl, rfl⟩
              obtain ⟨s', x, ht, hok', hm', hk2, hmk2, hcl, hle⟩ := take_marks s N ci (fk, (q0, q1, q2), mk, nn, ov) hok.out.1 hcN hbk
              obtain ⟨x0, xr, xm, xn, xf⟩ := x
              simp only at hk2 hmk2
              have hml : Hid (s.marks.length = N) := hok.out.1.1
              have hml' : Hid (s'.marks.length = N) := hok'.1
              have hok'' : Hid (s'.Ok N ∧ s'.cap.length ≤ j + 1) := ⟨hok', by have := hok.out.2; omega⟩
              replace hm' := Lib.hid hm'
              replace ht := Lib.hid ht
              replace hk2 := Lib.hid hk2
              replace hmk2 := Lib.hid hmk2
              replace hle := Lib.hid hle
              clear hcl hbk hok'
              go_wp2_with fail
              refine (mark17 p s _ w _ H.out.at1 (fun h => by have h1 := congrArg List.length h; rw [hml.out, List.length_nil] at h1; omega)).mono ?_
              rintro e w5 ⟨rfl, rfl⟩
              generalize hwas : lmin s.marks = was at *
              replace hwas := Lib.hid hwas
              go_wp2_with fail
              refine (takes p s N ci (fk, (q0, q1, q2), mk, nn, ov) _ w _ H.out.at1 hok.out.1 (by have := hok.out.2; omega) _ _ _ ht.out).mono ?_
              rintro e w3 ⟨rfl, H1⟩
              clear H
              simp only [stv]
              go_upto_region 19 with (fail)
              have H3 := H1.alloc (.cells #[.int .i64 x0, .int .i64 xr.1, .int .i64 xr.2.1, .int .i64 xr.2.2, .int .i64 xm, .int .u64 xn, .int .u64 xf] 38)
              replace H3 := Lib.hid H3.at2
              clear H1 e0 e1 e2 e3 e4 e5 e6 e7 e8
              generalize World.alloc _ _ = w4 at H3 ⊢
              generalize w3.heap.size = bq at H3 ⊢
              have hrd := hr.out.old H3.out.at3
              obtain ⟨e0, e1, e2, e3, e4, e5, e6, e7, e8, _⟩ := step_cells hrd hx.out
              clear e0 e2 e3 e4 e6 e7 e8 hrd
              cases hfk : (fk == 2) with
              | true =>
                have hfk' : fk = 2 := by simpa using hfk
                obtain ⟨y, hy⟩ : ∃ y, s.marks[ci]? = some y := ⟨_, List.getElem?_eq_getElem (by have := hml.out; omega)⟩
                have hyc := Lib.hid (fun (w' : World) (h : RdL (Enc.num .i64) w' (.slice (some ⟨gm, 0, none⟩) N N) s.marks) => show w'.cell? ⟨gm, ci, none⟩ = some (.int .i64 y) by have := h.cell hy 0 rfl; simpa [Enc.num] using this)
                have hmc := Lib.hid (fun (w' : World) (h : RdL EStep w' (.slice (some ⟨g, off, none⟩) n c) xs) => show w'.cell? ⟨g, off + j * 10 + 5, none⟩ = some (.int .i64 mk) from h.cell hx.out 5 rfl)
                have hset : Hid (s.marks.set ci (max y mk) = s'.marks) := by
                  show _ = _
                  rw [hm'.out]
                  unfold marksOf
                  rw [if_pos hfk', List.getD_eq_getElem?_getD, hy]
                  rfl
                have hrr := Lib.hid (fun (w' : World) (h : Hs w w' [Ls (Enc.num .i64) 2 (.slice (some ⟨gm, 0, none⟩) N N) s.marks, Blk bq (.cells #[.int .i64 x0, .int .i64 xr.1, .int .i64 xr.2.1, .int .i64 xr.2.2, .int .i64 xm, .int .u64 xn, .int .u64 xf] 38 (0, 0)), GateP p s', Old w]) => show w'.cell? ⟨gm, ci, none⟩ = some (.int .i64 y) ∧ w'.cell? ⟨g, off + j * 10 + 5, none⟩ = some (.int .i64 mk) from ⟨hyc.out _ h.ls_rd, hmc.out _ (hr.out.old h.at3)⟩)
                clear hfk' hy hm' hyc hmc
                go_wp2_with fail
                replace H3 := H3.out
                generalize hw9 : w4 = w9 at *
                clear hw9 e1 e5 hfk
                rcases Int.lt_or_le y mk with hlt | hlt
                · rw [Int.max_eq_right (Int.le_of_lt hlt)] at hset
                  refine wp_region_left (S := fun w' : World => w'.cell? ⟨gm, ci, none⟩ = some (.int .i64 y) ∧ w'.cell? ⟨g, off + j * 10 + 5, none⟩ = some (.int .i64 mk)) 14 mixed ?_
                  have hS : (fun w' : World => w'.cell? ⟨gm, ci, none⟩ = some (.int .i64 y) ∧ w'.cell? ⟨g, off + j * 10 + 5, none⟩ = some (.int .i64 mk)) w9.drew := by exact hrr.out _ H3.drew
                  refine Left.pure (i := 0) (v := ?va22_0) rfl (by kernel_rfl) (fun _ _ _ h => h) (Or.inr hS) (Or.inl ⟨by rfl, fun w _ => ?hya22_0⟩) ?resta22_0
                  case hya22_0 => (go_simp; try with_reducible rfl)
                  try simp only [Act.put, List.setIfInBounds_toArray, List.set_cons_zero, List.set_cons_succ]
                  refine Left.pure (i := 1) (v := ?va22_1) rfl (by kernel_rfl) (fun _ _ _ h => h) (Or.inr hS) (Or.inl ⟨by rfl, fun w _ => ?hya22_1⟩) ?resta22_1
                  case hya22_1 => (go_simp; try with_reducible rfl)
                  try simp only [Act.put, List.setIfInBounds_toArray, List.set_cons_zero, List.set_cons_succ]
                  refine Left.pure (i := 2) (v := ?va22_2) rfl (by kernel_rfl) (fun _ _ _ h => h) (Or.inr hS) (Or.inl ⟨by rfl, fun w _ => ?hya22_2⟩) ?resta22_2
                  case hya22_2 => (go_simp; try with_reducible rfl)
                  try simp only [Act.put, List.setIfInBounds_toArray, List.set_cons_zero, List.set_cons_succ]
                  refine Left.pure (i := 3) (v := ?va22_3) rfl (by kernel_rfl) (fun _ _ _ h => h) (Or.inr hS) (Or.inl ⟨by rfl, fun w _ => ?hya22_3⟩) ?resta22_3
                  case hya22_3 => (go_simp; try with_reducible rfl)
                  try simp only [Act.put, List.setIfInBounds_toArray, List.set_cons_zero, List.set_cons_succ]
                  refine Left.pure (i := 4) (v := ?va22_4) rfl (by kernel_rfl) (fun _ _ _ h => h) (Or.inr hS) (Or.inl ⟨by rfl, fun w _ => ?hya22_4⟩) ?resta22_4
                  case hya22_4 => (go_simp; try with_reducible rfl)
                  try simp only [Act.put, List.setIfInBounds_toArray, List.set_cons_zero, List.set_cons_succ]
                  refine Left.take (i := 5) (v := ?va22_5) rfl (by kernel_rfl) (fun _ _ _ h => h) hS (Or.inl ⟨by rfl, fun w hSw => ?hya22_5⟩) ?resta22_5
                  case hya22_5 => ((try dsimp only at hSw); go_simp; try with_reducible rfl)
                  try simp only [Act.put, List.setIfInBounds_toArray, List.set_cons_zero, List.set_cons_succ]
                  refine Left.pure (i := 6) (v := ?va22_6) rfl (by kernel_rfl) (fun _ _ _ h => h) (Or.inr hS) (Or.inl ⟨by rfl, fun w _ => ?hya22_6⟩) ?resta22_6
                  case hya22_6 => (go_simp; try with_reducible rfl)
                  try simp only [Act.put, List.setIfInBounds_toArray, List.set_cons_zero, List.set_cons_succ]
                  refine Left.pure (i := 7) (v := ?va22_7) rfl (by kernel_rfl) (fun _ _ _ h => h) (Or.inr hS) (Or.inl ⟨by rfl, fun w _ => ?hya22_7⟩) ?resta22_7
                  case hya22_7 => (go_simp; try with_reducible rfl)
                  try simp only [Act.put, List.setIfInBounds_toArray, List.set_cons_zero, List.set_cons_succ]
                  refine Left.pure (i := 8) (v := ?va22_8) rfl (by kernel_rfl) (fun _ _ _ h => h) (Or.inr hS) (Or.inl ⟨by rfl, fun w _ => ?hya22_8⟩) ?resta22_8
                  case hya22_8 => (go_simp; try with_reducible rfl)
                  try simp only [Act.put, List.setIfInBounds_toArray, List.set_cons_zero, List.set_cons_succ]
                  refine Left.pure (i := 9) (v := ?va22_9) rfl (by kernel_rfl) (fun _ _ _ h => h) (Or.inr hS) (Or.inl ⟨by rfl, fun w _ => ?hya22_9⟩) ?resta22_9
                  case hya22_9 => (go_simp; try with_reducible rfl)
                  try simp only [Act.put, List.setIfInBounds_toArray, List.set_cons_zero, List.set_cons_succ]
                  refine Left.pure (i := 10) (v := ?va22_10) rfl (by kernel_rfl) (fun _ _ _ h => h) (Or.inr hS) (Or.inl ⟨by rfl, fun w _ => ?hya22_10⟩) ?resta22_10
                  case hya22_10 => (go_simp; try with_reducible rfl)
                  try simp only [Act.put, List.setIfInBounds_toArray, List.set_cons_zero, List.set_cons_succ]
                  refine Left.take (i := 11) (v := ?va22_11) rfl (by kernel_rfl) (fun _ _ _ h => h) hS (Or.inl ⟨by rfl, fun w hSw => ?hya22_11⟩) ?resta22_11
                  case hya22_11 => ((try dsimp only at hSw); go_simp; try with_reducible rfl)
                  try simp only [Act.put, List.setIfInBounds_toArray, List.set_cons_zero, List.set_cons_succ]
                  refine Left.pure (i := 12) (v := ?va22_12) rfl (by kernel_rfl) (fun _ _ _ h => h) (Or.inr hS) (Or.inl ⟨by rfl, fun w _ => ?hya22_12⟩) ?resta22_12
                  case hya22_12 => (go_simp; try with_reducible rfl)
                  try simp only [Act.put, List.setIfInBounds_toArray, List.set_cons_zero, List.set_cons_succ]
                  refine Left.pure (i := 13) (v := ?va22_13) rfl (by kernel_rfl) (fun _ _ _ h => h) (Or.inr hS) (Or.inl ⟨by rfl, fun w _ => ?hya22_13⟩) ?resta22_13
                  case hya22_13 => (go_simp; try with_reducible rfl)
                  try simp only [Act.put, List.setIfInBounds_toArray, List.set_cons_zero, List.set_cons_succ]
                  refine Left.run (i := 14) rfl (by kernel_rfl) (fun K hK => ?_)
                  have f1 := H3.drew.ls_frozen ci
                  have d1 := (hrr.out _ H3.drew).1
                  go_simp
                  refine hK.out _ _ (Or.inl (by kernel_rfl)) ?_
                  clear hK K
                  try simp only [Act.put, List.setIfInBounds_toArray, List.set_cons_zero, List.set_cons_succ]
                  refine Left.done (by kernel_rfl) ?_ _

                  have H4 : Hs w ((w9.setCell ⟨gm, ci, none⟩ (.int .i64 mk)).drew) _ := H3.drew.ls_set0 rfl ci hcN mk (.int .i64 mk) rfl
                  rw [hset.out] at H4
                  replace H4 := Lib.hid H4
                  clear f1 d1 hrr hset H3 hS
                  generalize World.drew _ = wz at H4 ⊢
                  have b0 : wz.cell? ⟨bq, 0, none⟩ = some (.int .i64 x0) := H4.out.at1.cellOf 0 rfl
                  have b4 : wz.cell? ⟨bq, 4, none⟩ = some (.int .i64 xm) := H4.out.at1.cellOf 4 rfl
                  obtain ⟨z0, hz0⟩ : ∃ y, s'.marks[0]? = some y := ⟨_, List.getElem?_eq_getElem (by have := hml'.out; omega)⟩
                  have m0 : wz.cell? ⟨gm, 0, none⟩ = some (.int .i64 z0) := by have := H4.out.ls_rd.cell hz0 0 rfl; simpa [Enc.num] using this
                  have hl1 : Hid (lmin (s'.marks.take 1) = z0) := by
                    show _ = _
                    generalize s'.marks = L at hz0
                    cases L with
                    | nil => simp at hz0
                    | cons a l => simp at hz0; subst hz0; rfl
                  replace hz0 := Lib.hid hz0
                  go_wp2_with fail
                  clear m0
                  go_loopg [13, 14] (N - 1) (fun k mv iv wr => ∃ (i : Nat) (m : Int), k + i = N ∧ 1 ≤ i ∧ iv = .int .i64 i ∧ mv = .int .i64 m ∧ Hid (lmin (s'.marks.take i) = m) ∧ Hid (wr = wz))
                  case atStart => exact ⟨1, z0, by omega, by omega, rfl, rfl, hl1, Lib.hid rfl⟩
                  case round =>
                    obtain ⟨i, mv, hki, hi1', rfl, rfl, he, hw0⟩ := hrel
                    have hw0 := hw0.out
                    subst hw0
                    replace hki := Lib.hid hki
                    rcases Nat.lt_or_ge i N with hi | hi
                    · have hi0 : (0 : Int) ≤ (i : Int) := by omega
                      have hi1 : (i : Int) < (N : Int) := by omega
                      have hw7 : IntKind.i64.wrap ((i : Int) + 1) = ((i + 1 : Nat) : Int) := by rw [IntWalk.i64_in _ (by omega)]; omega
                      obtain ⟨z, hz⟩ : ∃ z, s'.marks[i]? = some z := ⟨_, List.getElem?_eq_getElem (by have := hml'.out; omega)⟩
                      have s0 : wr.cell? ⟨gm, i, none⟩ = some (.int .i64 z) := by have := H4.out.ls_rd.cell hz 0 rfl; simpa [Enc.num] using this
                      have hstep : Hid (lmin (s'.marks.take (i + 1)) = min mv z) := by
                        show _ = _
                        rw [List.take_add_one, hz]
                        show lmin (s'.marks.take i ++ [z]) = _
                        rw [lmin_snoc _ _ (fun h => by have h2 := congrArg List.length h; rw [List.length_take, List.length_nil] at h2; have := hml'.out; omega), he.out]
                      replace hz := Lib.hid hz
                      go_wp2_with fail
                      all_goals
                        go_roundg (N - (i + 1))
                        case measure => have := hki.out; omega
                        case rel => exact ⟨i + 1, _, by have := hki.out; omega, by omega, by go_num, rfl, by show _ = _; rw [hstep.out]; omega, Lib.hid rfl⟩
                    · have hi1 : decide ((i : Int) < (N : Int)) = false := by rw [decide_eq_false_iff_not]; omega
                      have hi2 : decide (i < N) = false := by rw [decide_eq_false_iff_not]; omega
                      have hfin : lmin s'.marks = mv := by
                        have h := he.out
                        rwa [List.take_of_length_le (by have := hml'.out; omega)] at h
                      clear hi
                      have hle' := hle.out
                      have hk3 : (x0 == 2) = decide (was < mv) := by
                        rw [Bool.eq_iff_iff, beq_iff_eq, decide_eq_true_iff, hk2.out, hfin]
                      have hmk3 : x0 = 2 → xm = mv := fun h => by rw [hmk2.out h, hfin]
                      rw [hfin] at hle'
                      replace hfin := Lib.hid hfin
                      have hwm : decide (mv < was) = false := by rw [decide_eq_false_iff_not]; omega
                      rcases (show (x0 = 2 ∧ was < mv) ∨ ((x0 == 2) = false ∧ decide (was < mv) = false) from by
                        cases h : (x0 == 2) with
                        | true => exact .inl ⟨by simpa using h, by rw [h] at hk3; exact of_decide_eq_true hk3.symm⟩
                        | false => exact .inr ⟨rfl, by rw [← hk3]; exact h⟩) with ⟨hx2, hlt⟩ | ⟨hx2, hlt⟩
                      · have hxm := hmk3 hx2
                        subst hx2 hxm
                        clear hk3 hmk3 hle'
                        go_wp2_with fail
                        refine (mark17 p s' _ w _ H4.out.at2 (fun h => by have h1 := congrArg List.length h; rw [hml'.out, List.length_nil] at h1; omega)).mono ?_
                        rw [hfin.out]
                        rintro e w5 ⟨rfl, rfl⟩
                        go_wp2_with fail
                        refine (marks19 p s' _ w _ H4.out.at2 (by rw [hml'.out]; omega)).mono ?_
                        rw [hml'.out]
                        rintro e w5 ⟨A2, c2, rfl, H5⟩
                        go_wp2_with fail
                        refine (eqlist18 _ _ s'.marks s'.marks w5 H5.ls_rd H5.at2.ls_rd).mono ?_
                        rw [decide_eq_true rfl]
                        rintro e w6 ⟨rfl, qn, rfl⟩
                        have H6 := Lib.hid (H5.tail.at2.tail.at1.drewN qn)
                        clear H5 H4
                        go_wp2_with fail
                        go_roundg (n - (j + 1))
                        case measure => have := hk.out; omega
                        case rel => exact ⟨j + 1, s', by have := hk.out; omega, by go_num, hok'', H6.out⟩
                      · clear hk3 hmk3 hle'
                        have hlt' : decide (mv ≤ was) = true := by have := of_decide_eq_false hlt; rw [decide_eq_true_iff]; omega
                        go_wp2_with fail
                        refine (mark17 p s' _ w _ H4.out.at2 (fun h => by have h1 := congrArg List.length h; rw [hml'.out, List.length_nil] at h1; omega)).mono ?_
                        rw [hfin.out]
                        rintro e w5 ⟨rfl, rfl⟩
                        go_wp2_with fail
                        refine (marks19 p s' _ w _ H4.out.at2 (by rw [hml'.out]; omega)).mono ?_
                        rw [hml'.out]
                        rintro e w5 ⟨A2, c2, rfl, H5⟩
                        go_wp2_with fail
                        refine (eqlist18 _ _ s'.marks s'.marks w5 H5.ls_rd H5.at2.ls_rd).mono ?_
                        rw [decide_eq_true rfl]
                        rintro e w6 ⟨rfl, qn, rfl⟩
                        have H6 := Lib.hid (H5.tail.at2.tail.at1.drewN qn)
                        clear H5 H4
                        go_wp2_with fail
                        go_roundg (n - (j + 1))
                        case measure => have := hk.out; omega
                        case rel => exact ⟨j + 1, s', by have := hk.out; omega, by go_num, hok'', H6.out⟩

                · rw [Int.max_eq_left hlt] at hset
                  have hlt1 : decide (y < mk) = false := by rw [decide_eq_false_iff_not]; omega
                  have hif : (if y < mk then mk else y) = y := if_neg (by omega)
                  refine wp_region_left (S := fun w' : World => w'.cell? ⟨gm, ci, none⟩ = some (.int .i64 y) ∧ w'.cell? ⟨g, off + j * 10 + 5, none⟩ = some (.int .i64 mk)) 14 mixed ?_
                  have hS : (fun w' : World => w'.cell? ⟨gm, ci, none⟩ = some (.int .i64 y) ∧ w'.cell? ⟨g, off + j * 10 + 5, none⟩ = some (.int .i64 mk)) w9.drew := by exact hrr.out _ H3.drew
                  refine Left.pure (i := 0) (v := ?vb22_0) rfl (by kernel_rfl) (fun _ _ _ h => h) (Or.inr hS) (Or.inl ⟨by rfl, fun w _ => ?hyb22_0⟩) ?restb22_0
                  case hyb22_0 => (go_simp; try with_reducible rfl)
                  try simp only [Act.put, List.setIfInBounds_toArray, List.set_cons_zero, List.set_cons_succ]
                  refine Left.pure (i := 1) (v := ?vb22_1) rfl (by kernel_rfl) (fun _ _ _ h => h) (Or.inr hS) (Or.inl ⟨by rfl, fun w _ => ?hyb22_1⟩) ?restb22_1
                  case hyb22_1 => (go_simp; try with_reducible rfl)
                  try simp only [Act.put, List.setIfInBounds_toArray, List.set_cons_zero, List.set_cons_succ]
                  refine Left.pure (i := 2) (v := ?vb22_2) rfl (by kernel_rfl) (fun _ _ _ h => h) (Or.inr hS) (Or.inl ⟨by rfl, fun w _ => ?hyb22_2⟩) ?restb22_2
                  case hyb22_2 => (go_simp; try with_reducible rfl)
                  try simp only [Act.put, List.setIfInBounds_toArray, List.set_cons_zero, List.set_cons_succ]
                  refine Left.pure (i := 3) (v := ?vb22_3) rfl (by kernel_rfl) (fun _ _ _ h => h) (Or.inr hS) (Or.inl ⟨by rfl, fun w _ => ?hyb22_3⟩) ?restb22_3
                  case hyb22_3 => (go_simp; try with_reducible rfl)
                  try simp only [Act.put, List.setIfInBounds_toArray, List.set_cons_zero, List.set_cons_succ]
                  refine Left.pure (i := 4) (v := ?vb22_4) rfl (by kernel_rfl) (fun _ _ _ h => h) (Or.inr hS) (Or.inl ⟨by rfl, fun w _ => ?hyb22_4⟩) ?restb22_4
                  case hyb22_4 => (go_simp; try with_reducible rfl)
                  try simp only [Act.put, List.setIfInBounds_toArray, List.set_cons_zero, List.set_cons_succ]
                  refine Left.take (i := 5) (v := ?vb22_5) rfl (by kernel_rfl) (fun _ _ _ h => h) hS (Or.inl ⟨by rfl, fun w hSw => ?hyb22_5⟩) ?restb22_5
                  case hyb22_5 => ((try dsimp only at hSw); go_simp; try with_reducible rfl)
                  try simp only [Act.put, List.setIfInBounds_toArray, List.set_cons_zero, List.set_cons_succ]
                  refine Left.pure (i := 6) (v := ?vb22_6) rfl (by kernel_rfl) (fun _ _ _ h => h) (Or.inr hS) (Or.inl ⟨by rfl, fun w _ => ?hyb22_6⟩) ?restb22_6
                  case hyb22_6 => (go_simp; try with_reducible rfl)
                  try simp only [Act.put, List.setIfInBounds_toArray, List.set_cons_zero, List.set_cons_succ]
                  refine Left.pure (i := 7) (v := ?vb22_7) rfl (by kernel_rfl) (fun _ _ _ h => h) (Or.inr hS) (Or.inl ⟨by rfl, fun w _ => ?hyb22_7⟩) ?restb22_7
                  case hyb22_7 => (go_simp; try with_reducible rfl)
                  try simp only [Act.put, List.setIfInBounds_toArray, List.set_cons_zero, List.set_cons_succ]
                  refine Left.pure (i := 8) (v := ?vb22_8) rfl (by kernel_rfl) (fun _ _ _ h => h) (Or.inr hS) (Or.inl ⟨by rfl, fun w _ => ?hyb22_8⟩) ?restb22_8
                  case hyb22_8 => (go_simp; try with_reducible rfl)
                  try simp only [Act.put, List.setIfInBounds_toArray, List.set_cons_zero, List.set_cons_succ]
                  refine Left.pure (i := 9) (v := ?vb22_9) rfl (by kernel_rfl) (fun _ _ _ h => h) (Or.inr hS) (Or.inl ⟨by rfl, fun w _ => ?hyb22_9⟩) ?restb22_9
                  case hyb22_9 => (go_simp; try with_reducible rfl)
                  try simp only [Act.put, List.setIfInBounds_toArray, List.set_cons_zero, List.set_cons_succ]
                  refine Left.pure (i := 10) (v := ?vb22_10) rfl (by kernel_rfl) (fun _ _ _ h => h) (Or.inr hS) (Or.inl ⟨by rfl, fun w _ => ?hyb22_10⟩) ?restb22_10
                  case hyb22_10 => (go_simp; try with_reducible rfl)
                  try simp only [Act.put, List.setIfInBounds_toArray, List.set_cons_zero, List.set_cons_succ]
                  refine Left.take (i := 11) (v := ?vb22_11) rfl (by kernel_rfl) (fun _ _ _ h => h) hS (Or.inl ⟨by rfl, fun w hSw => ?hyb22_11⟩) ?restb22_11
                  case hyb22_11 => ((try dsimp only at hSw); go_simp; try with_reducible rfl)
                  try simp only [Act.put, List.setIfInBounds_toArray, List.set_cons_zero, List.set_cons_succ]
                  refine Left.pure (i := 12) (v := ?vb22_12) rfl (by kernel_rfl) (fun _ _ _ h => h) (Or.inr hS) (Or.inl ⟨by rfl, fun w _ => ?hyb22_12⟩) ?restb22_12
                  case hyb22_12 => (go_simp; try with_reducible rfl)
                  try simp only [Act.put, List.setIfInBounds_toArray, List.set_cons_zero, List.set_cons_succ]
                  refine Left.pure (i := 13) (v := ?vb22_13) rfl (by kernel_rfl) (fun _ _ _ h => h) (Or.inr hS) (Or.inl ⟨by rfl, fun w _ => ?hyb22_13⟩) ?restb22_13
                  case hyb22_13 => (go_simp; try with_reducible rfl)
                  try simp only [Act.put, List.setIfInBounds_toArray, List.set_cons_zero, List.set_cons_succ]
                  refine Left.run (i := 14) rfl (by kernel_rfl) (fun K hK => ?_)
                  have f1 := H3.drew.ls_frozen ci
                  have d1 := (hrr.out _ H3.drew).1
                  go_simp
                  refine hK.out _ _ (Or.inl (by kernel_rfl)) ?_
                  clear hK K
                  try simp only [Act.put, List.setIfInBounds_toArray, List.set_cons_zero, List.set_cons_succ]
                  refine Left.done (by kernel_rfl) ?_ _

                  have H4 : Hs w ((w9.setCell ⟨gm, ci, none⟩ (.int .i64 y)).drew) _ := H3.drew.ls_set0 rfl ci hcN y (.int .i64 y) rfl
                  rw [hset.out] at H4
                  replace H4 := Lib.hid H4
                  clear f1 d1 hrr hset H3 hS
                  try rw [hif]
                  clear hif
                  generalize World.drew _ = wz at H4 ⊢
                  have b0 : wz.cell? ⟨bq, 0, none⟩ = some (.int .i64 x0) := H4.out.at1.cellOf 0 rfl
                  have b4 : wz.cell? ⟨bq, 4, none⟩ = some (.int .i64 xm) := H4.out.at1.cellOf 4 rfl
                  obtain ⟨z0, hz0⟩ : ∃ y, s'.marks[0]? = some y := ⟨_, List.getElem?_eq_getElem (by have := hml'.out; omega)⟩
                  have m0 : wz.cell? ⟨gm, 0, none⟩ = some (.int .i64 z0) := by have := H4.out.ls_rd.cell hz0 0 rfl; simpa [Enc.num] using this
                  have hl1 : Hid (lmin (s'.marks.take 1) = z0) := by
                    show _ = _
                    generalize s'.marks = L at hz0
                    cases L with
                    | nil => simp at hz0
                    | cons a l => simp at hz0; subst hz0; rfl
                  replace hz0 := Lib.hid hz0
                  go_wp2_with fail
                  clear m0
                  go_loopg [13, 14] (N - 1) (fun k mv iv wr => ∃ (i : Nat) (m : Int), k + i = N ∧ 1 ≤ i ∧ iv = .int .i64 i ∧ mv = .int .i64 m ∧ Hid (lmin (s'.marks.take i) = m) ∧ Hid (wr = wz))
                  case atStart => exact ⟨1, z0, by omega, by omega, rfl, rfl, hl1, Lib.hid rfl⟩
                  case round =>
                    obtain ⟨i, mv, hki, hi1', rfl, rfl, he, hw0⟩ := hrel
                    have hw0 := hw0.out
                    subst hw0
                    replace hki := Lib.hid hki
                    rcases Nat.lt_or_ge i N with hi | hi
                    · have hi0 : (0 : Int) ≤ (i : Int) := by omega
                      have hi1 : (i : Int) < (N : Int) := by omega
                      have hw7 : IntKind.i64.wrap ((i : Int) + 1) = ((i + 1 : Nat) : Int) := by rw [IntWalk.i64_in _ (by omega)]; omega
                      obtain ⟨z, hz⟩ : ∃ z, s'.marks[i]? = some z := ⟨_, List.getElem?_eq_getElem (by have := hml'.out; omega)⟩
                      have s0 : wr.cell? ⟨gm, i, none⟩ = some (.int .i64 z) := by have := H4.out.ls_rd.cell hz 0 rfl; simpa [Enc.num] using this
                      have hstep : Hid (lmin (s'.marks.take (i + 1)) = min mv z) := by
                        show _ = _
                        rw [List.take_add_one, hz]
                        show lmin (s'.marks.take i ++ [z]) = _
                        rw [lmin_snoc _ _ (fun h => by have h2 := congrArg List.length h; rw [List.length_take, List.length_nil] at h2; have := hml'.out; omega), he.out]
                      replace hz := Lib.hid hz
                      go_wp2_with fail
                      all_goals
                        go_roundg (N - (i + 1))
                        case measure => have := hki.out; omega
                        case rel => exact ⟨i + 1, _, by have := hki.out; omega, by omega, by go_num, rfl, by show _ = _; rw [hstep.out]; omega, Lib.hid rfl⟩
                    · have hi1 : decide ((i : Int) < (N : Int)) = false := by rw [decide_eq_false_iff_not]; omega
                      have hi2 : decide (i < N) = false := by rw [decide_eq_false_iff_not]; omega
                      have hfin : lmin s'.marks = mv := by
                        have h := he.out
                        rwa [List.take_of_length_le (by have := hml'.out; omega)] at h
                      clear hi
                      have hle' := hle.out
                      have hk3 : (x0 == 2) = decide (was < mv) := by
                        rw [Bool.eq_iff_iff, beq_iff_eq, decide_eq_true_iff, hk2.out, hfin]
                      have hmk3 : x0 = 2 → xm = mv := fun h => by rw [hmk2.out h, hfin]
                      rw [hfin] at hle'
                      replace hfin := Lib.hid hfin
                      have hwm : decide (mv < was) = false := by rw [decide_eq_false_iff_not]; omega
                      rcases (show (x0 = 2 ∧ was < mv) ∨ ((x0 == 2) = false ∧ decide (was < mv) = false) from by
                        cases h : (x0 == 2) with
                        | true => exact .inl ⟨by simpa using h, by rw [h] at hk3; exact of_decide_eq_true hk3.symm⟩
                        | false => exact .inr ⟨rfl, by rw [← hk3]; exact h⟩) with ⟨hx2, hlt⟩ | ⟨hx2, hlt⟩
                      · have hxm := hmk3 hx2
                        subst hx2 hxm
                        clear hk3 hmk3 hle'
                        go_wp2_with fail
                        refine (mark17 p s' _ w _ H4.out.at2 (fun h => by have h1 := congrArg List.length h; rw [hml'.out, List.length_nil] at h1; omega)).mono ?_
                        rw [hfin.out]
                        rintro e w5 ⟨rfl, rfl⟩
                        go_wp2_with fail
                        refine (marks19 p s' _ w _ H4.out.at2 (by rw [hml'.out]; omega)).mono ?_
                        rw [hml'.out]
                        rintro e w5 ⟨A2, c2, rfl, H5⟩
                        go_wp2_with fail
                        refine (eqlist18 _ _ s'.marks s'.marks w5 H5.ls_rd H5.at2.ls_rd).mono ?_
                        rw [decide_eq_true rfl]
                        rintro e w6 ⟨rfl, qn, rfl⟩
                        have H6 := Lib.hid (H5.tail.at2.tail.at1.drewN qn)
                        clear H5 H4
                        go_wp2_with fail
                        go_roundg (n - (j + 1))
                        case measure => have := hk.out; omega
                        case rel => exact ⟨j + 1, s', by have := hk.out; omega, by go_num, hok'', H6.out⟩
                      · clear hk3 hmk3 hle'
                        have hlt' : decide (mv ≤ was) = true := by have := of_decide_eq_false hlt; rw [decide_eq_true_iff]; omega
                        go_wp2_with fail
                        refine (mark17 p s' _ w _ H4.out.at2 (fun h => by have h1 := congrArg List.length h; rw [hml'.out, List.length_nil] at h1; omega)).mono ?_
                        rw [hfin.out]
                        rintro e w5 ⟨rfl, rfl⟩
                        go_wp2_with fail
                        refine (marks19 p s' _ w _ H4.out.at2 (by rw [hml'.out]; omega)).mono ?_
                        rw [hml'.out]
                        rintro e w5 ⟨A2, c2, rfl, H5⟩
                        go_wp2_with fail
                        refine (eqlist18 _ _ s'.marks s'.marks w5 H5.ls_rd H5.at2.ls_rd).mono ?_
                        rw [decide_eq_true rfl]
                        rintro e w6 ⟨rfl, qn, rfl⟩
                        have H6 := Lib.hid (H5.tail.at2.tail.at1.drewN qn)
                        clear H5 H4
                        go_wp2_with fail
                        go_roundg (n - (j + 1))
                        case measure => have := hk.out; omega
                        case rel => exact ⟨j + 1, s', by have := hk.out; omega, by go_num, hok'', H6.out⟩

              | false =>
                have hset : Hid (s.marks = s'.marks) := by
                  show _ = _
                  rw [hm'.out]
                  unfold marksOf
                  rw [if_neg (by simpa using hfk)]
                have H4 := H3.out
                rw [hset.out] at H4
                replace H4 := Lib.hid H4
                clear H3 hm'
                generalize hwz : w4 = wz at *
                clear hwz
                have b0 : wz.cell? ⟨bq, 0, none⟩ = some (.int .i64 x0) := H4.out.at1.cellOf 0 rfl
                have b4 : wz.cell? ⟨bq, 4, none⟩ = some (.int .i64 xm) := H4.out.at1.cellOf 4 rfl
                obtain ⟨z0, hz0⟩ : ∃ y, s'.marks[0]? = some y := ⟨_, List.getElem?_eq_getElem (by have := hml'.out; omega)⟩
                have m0 : wz.cell? ⟨gm, 0, none⟩ = some (.int .i64 z0) := by have := H4.out.ls_rd.cell hz0 0 rfl; simpa [Enc.num] using this
                have hl1 : Hid (lmin (s'.marks.take 1) = z0) := by
                  show _ = _
                  generalize s'.marks = L at hz0
                  cases L with
                  | nil => simp at hz0
                  | cons a l => simp at hz0; subst hz0; rfl
                replace hz0 := Lib.hid hz0
                go_wp2_with fail
                clear m0
                go_loopg [13, 14] (N - 1) (fun k mv iv wr => ∃ (i : Nat) (m : Int), k + i = N ∧ 1 ≤ i ∧ iv = .int .i64 i ∧ mv = .int .i64 m ∧ Hid (lmin (s'.marks.take i) = m) ∧ Hid (wr = wz))
                case atStart => exact ⟨1, z0, by omega, by omega, rfl, rfl, hl1, Lib.hid rfl⟩
                case round =>
                  obtain ⟨i, mv, hki, hi1', rfl, rfl, he, hw0⟩ := hrel
                  have hw0 := hw0.out
                  subst hw0
                  replace hki := Lib.hid hki
                  rcases Nat.lt_or_ge i N with hi | hi
                  · have hi0 : (0 : Int) ≤ (i : Int) := by omega
                    have hi1 : (i : Int) < (N : Int) := by omega
                    have hw7 : IntKind.i64.wrap ((i : Int) + 1) = ((i + 1 : Nat) : Int) := by rw [IntWalk.i64_in _ (by omega)]; omega
                    obtain ⟨z, hz⟩ : ∃ z, s'.marks[i]? = some z := ⟨_, List.getElem?_eq_getElem (by have := hml'.out; omega)⟩
                    have s0 : wr.cell? ⟨gm, i, none⟩ = some (.int .i64 z) := by have := H4.out.ls_rd.cell hz 0 rfl; simpa [Enc.num] using this
                    have hstep : Hid (lmin (s'.marks.take (i + 1)) = min mv z) := by
                      show _ = _
                      rw [List.take_add_one, hz]
                      show lmin (s'.marks.take i ++ [z]) = _
                      rw [lmin_snoc _ _ (fun h => by have h2 := congrArg List.length h; rw [List.length_take, List.length_nil] at h2; have := hml'.out; omega), he.out]
                    replace hz := Lib.hid hz
                    go_wp2_with fail
                    all_goals
                      go_roundg (N - (i + 1))
                      case measure => have := hki.out; omega
                      case rel => exact ⟨i + 1, _, by have := hki.out; omega, by omega, by go_num, rfl, by show _ = _; rw [hstep.out]; omega, Lib.hid rfl⟩
                  · have hi1 : decide ((i : Int) < (N : Int)) = false := by rw [decide_eq_false_iff_not]; omega
                    have hi2 : decide (i < N) = false := by rw [decide_eq_false_iff_not]; omega
                    have hfin : lmin s'.marks = mv := by
                      have h := he.out
                      rwa [List.take_of_length_le (by have := hml'.out; omega)] at h
                    clear hi
                    have hle' := hle.out
                    have hk3 : (x0 == 2) = decide (was < mv) := by
                      rw [Bool.eq_iff_iff, beq_iff_eq, decide_eq_true_iff, hk2.out, hfin]
                    have hmk3 : x0 = 2 → xm = mv := fun h => by rw [hmk2.out h, hfin]
                    rw [hfin] at hle'
                    replace hfin := Lib.hid hfin
                    have hwm : decide (mv < was) = false := by rw [decide_eq_false_iff_not]; omega
                    rcases (show (x0 = 2 ∧ was < mv) ∨ ((x0 == 2) = false ∧ decide (was < mv) = false) from by
                      cases h : (x0 == 2) with
                      | true => exact .inl ⟨by simpa using h, by rw [h] at hk3; exact of_decide_eq_true hk3.symm⟩
                      | false => exact .inr ⟨rfl, by rw [← hk3]; exact h⟩) with ⟨hx2, hlt⟩ | ⟨hx2, hlt⟩
                    · have hxm := hmk3 hx2
                      subst hx2 hxm
                      clear hk3 hmk3 hle'
                      go_wp2_with fail
                      refine (mark17 p s' _ w _ H4.out.at2 (fun h => by have h1 := congrArg List.length h; rw [hml'.out, List.length_nil] at h1; omega)).mono ?_
                      rw [hfin.out]
                      rintro e w5 ⟨rfl, rfl⟩
                      go_wp2_with fail
                      refine (marks19 p s' _ w _ H4.out.at2 (by rw [hml'.out]; omega)).mono ?_
                      rw [hml'.out]
                      rintro e w5 ⟨A2, c2, rfl, H5⟩
                      go_wp2_with fail
                      refine (eqlist18 _ _ s'.marks s'.marks w5 H5.ls_rd H5.at2.ls_rd).mono ?_
                      rw [decide_eq_true rfl]
                      rintro e w6 ⟨rfl, qn, rfl⟩
                      have H6 := Lib.hid (H5.tail.at2.tail.at1.drewN qn)
                      clear H5 H4
                      go_wp2_with fail
                      go_roundg (n - (j + 1))
                      case measure => have := hk.out; omega
                      case rel => exact ⟨j + 1, s', by have := hk.out; omega, by go_num, hok'', H6.out⟩
                    · clear hk3 hmk3 hle'
                      have hlt' : decide (mv ≤ was) = true := by have := of_decide_eq_false hlt; rw [decide_eq_true_iff]; omega
                      go_wp2_with fail
                      refine (mark17 p s' _ w _ H4.out.at2 (fun h => by have h1 := congrArg List.length h; rw [hml'.out, List.length_nil] at h1; omega)).mono ?_
                      rw [hfin.out]
                      rintro e w5 ⟨rfl, rfl⟩
                      go_wp2_with fail
                      refine (marks19 p s' _ w _ H4.out.at2 (by rw [hml'.out]; omega)).mono ?_
                      rw [hml'.out]
                      rintro e w5 ⟨A2, c2, rfl, H5⟩
                      go_wp2_with fail
                      refine (eqlist18 _ _ s'.marks s'.marks w5 H5.ls_rd H5.at2.ls_rd).mono ?_
                      rw [decide_eq_true rfl]
                      rintro e w6 ⟨rfl, qn, rfl⟩
                      have H6 := Lib.hid (H5.tail.at2.tail.at1.drewN qn)
                      clear H5 H4
                      go_wp2_with fail
                      go_roundg (n - (j + 1))
                      case measure => have := hk.out; omega
                      case rel => exact ⟨j + 1, s', by have := hk.out; omega, by go_num, hok'', H6.out⟩

        · have hj1 : decide ((j : Int) < (n : Int)) = false := by rw [decide_eq_false_iff_not]; omega
          have hj2 : decide (j < n) = false := by rw [decide_eq_false_iff_not]; omega
          clear hj
          go_wp2_with fail
          go_ret
          exact ⟨rfl, H.out.tail.tail.under_old⟩
end Go.Proofs.Ytlhgmfdmkckmhaa

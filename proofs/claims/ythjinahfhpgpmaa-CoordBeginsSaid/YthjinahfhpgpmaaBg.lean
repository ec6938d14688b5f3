import Derived.Test.YthjinahfhpgpmaaBd
import Derived.IntWalk
import Derived.Test.YthjinahfhpgpmaaProg
import Derived.Test.YthjinahfhpgpmaaLs
import Derived.Outline
import Derived.StillTailTactics
import Derived.Deep.DeepCutAuto
import Derived.Deep.CutBlock
import Derived.Deep.LoopGhost
import Derived.Deep.QuietTactic
import Derived.BigQuiet
import Derived.Deep.RegionHeld3
import Derived.Deep.RegionLaw
set_option linter.unusedVariables false
set_option linter.unusedSimpArgs false
namespace Go.Proofs.Ythjinahfhpgpmaa
open Go.RowKit
def Fk (n k : Nat) (F L : Int) : Co := ⟨iota n, [0], 1, 500, 4, F, L, fun x => decide (0 ≤ x ∧ x < (k : Int)), nobody, fun _ => 0, 0, F, false, 500, 0, 0, 0⟩
def Fm (n : Nat) (F L : Int) : Co := ⟨iota n, [0], 1, 500, 4, F, L + 1, fun x => decide (0 ≤ x ∧ x < (n : Int)), nobody, fun _ => 0, L + 1, F, false, 500, 1, 1, 1⟩
def Fd (n : Nat) (F L : Int) : Co := ⟨iota n, [0], 1, 500, 4, F, L + 1, fun x => decide (0 ≤ x ∧ x < (n : Int)), nobody, updf (fun _ => 0) 0 F, L + 1, F, false, 500, 1, 1, 1⟩
def told (kind n : Int) (l : List Int) : List Ctl := l.map fun t => (kind, 4, n, t)
theorem tell_all (s : Co) (he : s.epoch = 4) (kind n : Int) (l : List Int) : s.tell kind n l nobody = told kind n l := by
  unfold Co.tell told
  rw [he]
  congr 1
  rw [List.filter_eq_self]
  intro a _
  rfl
theorem fk_begin (s : Co) (n : Nat) (F : Int) (hs : Same (Rk n n 1 500) s) (he : s.epoch = 1) (la : Int) : s.begin 4 F la = (Fk n 0 F (max s.last la), told 5 F (iota n)) := by
  have h0 : nobody = fun x : Int => decide (0 ≤ x ∧ x < ((0 : Nat) : Int)) := by
    funext x
    show false = _
    rw [eq_comm, decide_eq_false_iff_not]
    omega
  unfold Co.begin
  rw [if_neg (by omega), tell_all _ rfl]
  have h1 : s.tasks = iota n := hs.tasks
  have h2 : s.sinks = [0] := hs.sinks
  have h3 : s.interval = 1 := hs.interval
  have h4 : s.timeout = 500 := hs.timeout
  rw [h1]
  refine Prod.ext ?_ rfl
  show s.fresh 4 F _ = _
  unfold Co.fresh Fk
  rw [h1, h2, h3, h4, ← h0]
theorem fk_take (n k : Nat) (hk : k < n) (F L : Int) : (Fk n k F L).take (6, 4, F, (k : Int)) = (Fk n (k + 1) F L, 0) := by
  have h1 : (iota n).contains (k : Int) = true := by rw [iota_mem, decide_eq_true_iff]; omega
  unfold Co.take
  rw [if_neg (by
    rintro (h | h | h)
    · exact h rfl
    · exact absurd h (by show (4 : Int) ≠ 0; decide)
    · have : (iota n).contains (k : Int) = false := h
      rw [h1] at this; cases this)]
  rw [if_pos ⟨rfl, rfl, by show decide _ = false; rw [decide_eq_false_iff_not]; show ¬(0 ≤ (k : Int) ∧ (k : Int) < (k : Int)); omega⟩]
  have hf : updf (fun x => decide (0 ≤ x ∧ x < (k : Int))) (k : Int) true = fun x => decide (0 ≤ x ∧ x < ((k + 1 : Nat) : Int)) := by
    funext x
    unfold updf
    split
    · rw [eq_comm, decide_eq_true_iff]; omega
    · exact decide_eq_decide.2 (by omega)
  unfold Co.readied
  show (if _ then ({ Fk n k F L with ready := updf (fun x => decide (0 ≤ x ∧ x < (k : Int))) (k : Int) true, since := 0 } : Co) else { Fk n k F L with ready := updf (fun x => decide (0 ≤ x ∧ x < (k : Int))) (k : Int) true }, (0 : Int)) = _
  rw [hf]
  split <;> rfl
theorem all_ready (n : Nat) : (iota n).all (fun x => decide (0 ≤ x ∧ x < (n : Int))) = true := (iota_all n _).2 fun x h1 h2 => by rw [decide_eq_true_iff]; exact ⟨h1, h2⟩
theorem fk_unsettled (n : Nat) (hn : 1 ≤ n) (F L : Int) : (Fk n 0 F L).settled = false := by
  have : (Fk n 0 F L).all (Fk n 0 F L).ready = false := by
    show (iota n).all _ = false
    rw [List.all_eq_false]
    refine ⟨0, ?_, by show ¬ decide ((0 : Int) ≤ 0 ∧ (0 : Int) < ((0 : Nat) : Int)) = true; decide⟩
    rw [← List.contains_iff_mem, iota_mem, decide_eq_true_iff]
    omega
  unfold Co.settled
  rw [this]
  simp
theorem fk_tick (n : Nat) (F L : Int) (hF : 1 ≤ F) : (Fk n n F L).tick = (Fm n F L, (3, 4, F, 0) :: told 1 (L + 1) (iota n)) := by
  unfold Co.tick
  rw [if_neg (by show ¬ (4 : Int) = 0; decide)]
  have h1 : (Fk n n F L).all (Fk n n F L).ready = true := all_ready n
  rw [h1]
  simp only [Bool.true_eq_false, if_false]
  have ho : (Fk n n F L).outs = [(3, 4, F, 0)] := by
    unfold Co.outs
    rw [if_neg (by show ¬ F = 0; omega)]
    show ([0].filter fun t => !(Fk n n F L).committed t).map _ = _
    have : (Fk n n F L).committed 0 = false := by show ((0 : Int) == F) = false; rw [beq_eq_false_iff_ne]; omega
    simp [this]
    exact ⟨rfl, rfl⟩
  have hm : (Fk n n F L).mid = (Fk n n F L).up := by
    unfold Co.mid
    rw [if_neg (by show ¬ ((0 : Int) != 0 && _ && _) = true; simp)]
  rw [hm, ho]
  unfold Co.go
  rw [if_pos (by show ((0 : Int) == 0 && decide ((1 : Int) ≤ (0 + 1) - 0)) = true; decide), tell_all _ rfl]
  rfl
theorem fm_take (n : Nat) (hn : 1 ≤ n) (F L : Int) : (Fm n F L).take (4, 4, F, 0) = (Fd n F L, 0) := by
  have h1 : (iota n).contains 0 = true := by rw [iota_mem, decide_eq_true_iff]; omega
  unfold Co.take
  rw [if_neg (by
    rintro (h | h | h)
    · exact h rfl
    · exact absurd h (by show (4 : Int) ≠ 0; decide)
    · have : (iota n).contains 0 = false := h
      rw [h1] at this; cases this)]
  rw [if_neg (fun h => absurd h.1 (by show (4 : Int) ≠ 6; decide)), if_neg (fun h => absurd h.1 (by show (4 : Int) ≠ 2; decide)), if_pos ⟨rfl, rfl, rfl⟩]
  rfl
theorem fd_tick (n : Nat) (F L : Int) (hL : 0 ≤ L) : (Fd n F L).tick.2 = told 1 (L + 1) (iota n) := by
  unfold Co.tick
  rw [if_neg (by show ¬ (4 : Int) = 0; decide)]
  have h1 : (Fd n F L).all (Fd n F L).ready = true := all_ready n
  rw [h1]
  simp only [Bool.true_eq_false, if_false]
  have ho : (Fd n F L).outs = [] := by
    unfold Co.outs
    split
    · rfl
    · show ([0].filter fun t => !(Fd n F L).committed t).map _ = _
      have : (Fd n F L).committed 0 = true := by show (updf (fun _ => 0) 0 F 0 == F) = true; unfold updf; simp
      simp [this]
  have hne : (L + 1 == (0 : Int)) = false := by rw [beq_eq_false_iff_ne]; omega
  have hm : (Fd n F L).mid = (Fd n F L).up := by
    unfold Co.mid
    rw [if_neg (by show ¬ (_ && _ && decide ((500 : Int) ≤ 1 + 1 - 1)) = true; simp)]
  rw [hm, ho]
  unfold Co.go
  rw [if_neg (by show ¬ (L + 1 == (0 : Int) && _) = true; rw [hne]; simp), if_pos (by show (L + 1 != (0 : Int) && !false) = true; simp; omega)]
  show [] ++ (Fd n F L).up.tell 1 (L + 1) (iota n) nobody = _
  rw [tell_all _ rfl]
  rfl
theorem told_len (kind n : Int) (l : List Int) : (told kind n l).length = l.length := by simp [told]
theorem told_get (kind n : Int) (N k : Nat) (hk : k < N) : (told kind n (iota N))[k]? = some (kind, 4, n, (k : Int)) := by
  unfold told iota
  rw [List.getElem?_map, List.getElem?_map, List.getElem?_range hk]
  rfl
set_option maxRecDepth 100000 in
set_option maxHeartbeats 8000000 in
theorem coordbegins_walk (n0 f0 t0 : Int) (w : World) (hn : (Lit.int .i64 n0).wf = true) (hf : (Lit.int .u64 f0).wf = true) (ht : (Lit.int .i64 t0).wf = true) :
    Calls Try.prog 5 #[.int .i64 n0, .int .u64 f0, .int .i64 t0] w fun e w' => e = .returned (.bool true) ∧ Below w.heap.size w w' := by
  have hf0 : 0 ≤ f0 := by
    have hb : 0 ≤ f0 ∧ f0 ≤ 18446744073709551615 := by simpa [Lit.wf, IntKind.min, IntKind.max, IntKind.signed, IntKind.bits] using hf
    exact hb.1
  clear hn ht hf
  obtain ⟨m, hm⟩ : ∃ m : Nat, n0 % 6 = (m : Int) := ⟨(n0 % 6).toNat, by omega⟩
  obtain ⟨N, hN⟩ : ∃ N, N = m + 1 := ⟨_, rfl⟩
  obtain ⟨M, hM⟩ : ∃ M : Nat, t0 % 6 = (M : Int) := ⟨(t0 % 6).toNat, by omega⟩
  obtain ⟨F, hF⟩ : ∃ F, F = 1 + f0 % 1000 := ⟨_, rfl⟩
  have hF1 : 1 ≤ F := by omega
  have hF2 : F ≤ 1000 := by omega
  have hft : f0.tmod 1000 = F - 1 := by rw [Int.tmod_eq_emod_of_nonneg hf0]; omega
  have hwf : IntKind.u64.wrap (1 + (F - 1)) = F := by rw [IntWalk.u64_in _ (by omega)]; omega
  have hwf2 : IntKind.u64.wrap (F + 2) = F + 2 := IntWalk.u64_in _ (by omega)
  have hwf3 : IntKind.u64.wrap (F - 1) = F - 1 := IntWalk.u64_in _ (by omega)
  have hw1 : IntKind.i64.wrap (1 + (m : Int)) = (N : Int) := by rw [IntWalk.i64_in _ (by omega)]; omega
  have hwn : IntKind.i64.wrap ((N : Int) + 1) = ((N + 1 : Nat) : Int) := by rw [IntWalk.i64_in _ (by omega)]; omega
  have hN1 : 1 ≤ N := by omega
  have hN9 : N < 9 := by omega
  have hM9 : M < 6 := by omega
  replace hm := Lib.hid hm
  replace hM := Lib.hid hM
  clear hN hF hf0
  go_enter Try.func5, Try.ntmps5
  go_wp2_with fail
  refine (known8 w w _ (Hs.start w)).mono ?_
  rintro e w1 ⟨rfl, H⟩
  go_wp2_with fail
  refine (place9 n0 6 _ (by omega) (by omega)).mono ?_
  rw [hm.out]
  rintro e w2 ⟨rfl, rfl⟩
  go_wp2_with fail
  refine (ready16 N hN1 hN9 1 500 _ w _ H).mono ?_
  rw [show clampC 1 = 1 from rfl, show clampC 500 = 500 from rfl]
  rintro e w2 ⟨p, v, rfl, H1⟩
  replace H1 := Lib.hid H1
  clear H
  go_wp2_with fail
  refine (place9 t0 6 _ (by omega) (by omega)).mono ?_
  rw [hM.out]
  rintro e w4 ⟨rfl, rfl⟩
  have hI : Hid (Bd (Rk N N 1 500) ((0 : Nat) : Int) ((0 : Nat) : Int) ∧ Same (Rk N N 1 500) (Rk N N 1 500) ∧ (Rk N N 1 500).epoch = 1) := ⟨rk_bd N N 1 500 (by decide), Same.refl _, rfl⟩
  have hlen : ∀ s, Same (Rk N N 1 500) s → s.tasks.length ≤ 1000 ∧ s.sinks.length ≤ 1000 := fun s h => by
    rw [h.tasks, h.sinks]
    exact ⟨by show (iota N).length ≤ 1000; rw [iota_len]; omega, by show 1 ≤ 1000; decide⟩
  replace hlen := Lib.hid hlen
  have hlenF : Hid ((iota N).length ≤ 1000) := by show _ ≤ _; rw [iota_len]; omega
  go_wp2_with fail
  go_loopg [8] M (fun k iv wr => ∃ (j : Nat) (s : Co), k + j = M ∧ iv = .int .i64 ((M : Int) - (j : Int)) ∧ Hid (Bd s j j ∧ Same (Rk N N 1 500) s ∧ s.epoch = 1) ∧ Hid (Hs w wr [CoV p v s, Old w]))
  case atStart => exact ⟨0, _, rfl, by simp, hI, H1⟩
  case round =>
    clear H1 hI
    obtain ⟨j, s, hk, rfl, hI, H⟩ := hrel
    replace hk := Lib.hid hk
    rcases Nat.lt_or_ge j M with hj | hj
    · obtain ⟨i, hi⟩ : ∃ i : Nat, (M : Int) - (j : Int) = (i : Int) := ⟨M - j, by omega⟩
      rw [hi]
      have hw6 : IntKind.i64.wrap ((i : Int) - 1) = (M : Int) - ((j + 1 : Nat) : Int) := by rw [IntWalk.i64_in _ (by omega)]; omega
      have hi0 : (0 : Int) < (i : Int) := by omega
      have hI2 : Hid (Bd s.tick.1 ((j + 1 : Nat) : Int) ((j + 1 : Nat) : Int) ∧ Same (Rk N N 1 500) s.tick.1 ∧ s.tick.1.epoch = 1) := by
        have h := tick_bd hI.out.1
        exact ⟨h.1.mono (by omega) (by omega), hI.out.2.1.trans h.2.1, h.2.2.1.trans hI.out.2.2⟩
      have hl := Lib.hid (hlen.out s hI.out.2.1)
      have hB := Lib.hid hI.out.1
      have hjs : (j : Int) ≤ 1000000 := by omega
      have hjs2 : (j : Int) ≤ 9223372036854775807 := by omega
      clear hi hI
      go_wp2_with fail
      refine (ticks12 p v s _ w _ H.out j j hB.out hjs hjs2 hl.out.1 hl.out.2).mono ?_
      rintro e w4 ⟨A1, c1, rfl, H3⟩
      replace H3 := Lib.hid H3.tail
      clear H
      go_wp2_with fail
      go_roundg (M - (j + 1))
      case measure => have := hk.out; omega
      case rel => exact ⟨j + 1, s.tick.1, by have := hk.out; omega, by first | rfl | go_num, hI2, H3⟩
    · have hMj : (M : Int) - (j : Int) = 0 := by have := hk.out; omega
      rw [hMj]
      have hlast : Hid (0 ≤ s.last ∧ s.last ≤ 1000) := by have := hI.out.1.last; show _ ∧ _; have := hk.out; omega
      have hb1 : Hid (s.begin 1 F F = (s, [])) := by show _ = _; unfold Co.begin; rw [if_pos (by rw [hI.out.2.2]; decide)]
      have hl := Lib.hid (hlen.out s hI.out.2.1)
      have hep : Hid (s.epoch = 1) := hI.out.2.2
      have hfb := Lib.hid (fk_begin s N F hI.out.2.1 hI.out.2.2 (F + 2))
      obtain ⟨L, hL⟩ : ∃ L, max s.last (F + 2) = L := ⟨_, rfl⟩
      rw [hL] at hfb
      have hL1 : F + 2 ≤ L ∧ L ≤ 2000 := by have := hlast.out; omega
      clear hj hMj hL hI
      go_wp2_with fail
      refine (begin11 p v s _ w _ H.out 1 F F hl.out.1).mono ?_
      rw [hb1.out]
      rintro e w5 ⟨A1, c1, rfl, H1⟩
      replace H1 := Lib.hid H1.tail
      clear H
      simp only [List.length_nil]
      go_wp2_with fail
      refine (epoch20 p v s _ w _ H1.out).mono ?_
      rw [hep.out]
      rintro e w6 ⟨rfl, rfl⟩
      go_wp2_with fail
      refine (begin11 p v s _ w _ H1.out 4 F (F + 2) hl.out.1).mono ?_
      rw [hfb.out]
      rintro e w6 ⟨A2, c2, rfl, H2⟩
      simp only [told_len, iota_len] at H2 ⊢
      replace H2 := Lib.hid H2.at1
      clear H1
      go_wp2_with fail
      refine (under17 p v _ _ w _ H2.out).mono ?_
      rintro e w7 ⟨rfl, rfl⟩
      simp only [Fk]
      go_wp2_with fail
      refine (durable13 p v _ _ w _ H2.out).mono ?_
      rintro e w7 ⟨rfl, rfl⟩
      simp only [Fk]
      go_wp2_with fail
      refine (settled19 p v _ _ w _ H2.out hlenF.out (by show 1 ≤ 1000; decide)).mono ?_
      rw [fk_unsettled N hN1]
      rintro e w7 ⟨rfl, H3⟩
      replace H3 := Lib.hid H3
      clear H2
      go_wp2_with fail
      refine (epoch20 p v _ _ w _ H3.out).mono ?_
      rintro e w7 ⟨rfl, rfl⟩
      simp only [Fk]
      go_wp2_with fail
      have H3' : Hid (Hs w _ [CoV p v (Fk N 0 F L), Ls ECtl 32 (.slice A2 N c2) (told 5 F (iota N)), Old w]) := H3
      clear H3
      go_loopg [10] N (fun m iv wr => ∃ k : Nat, m + k = N ∧ iv = .int .i64 k ∧ Hid (Hs w wr [CoV p v (Fk N k F L), Ls ECtl 32 (.slice A2 N c2) (told 5 F (iota N)), Old w]))
      case atStart => exact ⟨0, rfl, rfl, H3'⟩
      case round =>
        clear H3'
        obtain ⟨k, hk2, rfl, H⟩ := hrel
        replace hk2 := Lib.hid hk2
        have hcap := H.out.at1.ls_rd.caps.2
        rcases Nat.lt_or_ge k N with hkN | hkN
        · have hk0 : (0 : Int) ≤ (k : Int) := by omega
          have hk1 : (k : Int) < (N : Int) := by omega
          have hw6 : IntKind.i64.wrap ((k : Int) + 1) = ((k + 1 : Nat) : Int) := by rw [IntWalk.i64_in _ (by omega)]; omega
          obtain ⟨g, off, rfl⟩ := H.out.at1.ls_rd.some_ (by rw [told_len, iota_len]; omega)
          obtain ⟨e0, e1, e2, e3⟩ := ctl_cells H.out.at1.ls_rd (told_get 5 F N k hkN)
          simp only at e0 e1 e2 e3
          have hft2 := Lib.hid (fk_take N k hkN F L)
          go_wp2_with fail
          refine (take14 p v _ _ w _ H.out 6 4 F k hlenF.out).mono ?_
          rw [hft2.out]
          rintro e w8 ⟨rfl, H4⟩
          replace H4 := Lib.hid H4
          clear H e0 e1 e2 e3 hft2
          go_wp2_with fail
          go_roundg (N - (k + 1))
          case measure => have := hk2.out; omega
          case rel => exact ⟨k + 1, by have := hk2.out; omega, by go_num, H4⟩
        · have hk1 : decide ((k : Int) < (N : Int)) = false := by rw [decide_eq_false_iff_not]; omega
          have hk3 : decide (k < N) = false := by rw [decide_eq_false_iff_not]; omega
          have hkN2 : k = N := by have := hk2.out; omega
          rw [hkN2] at H
          have hftk := Lib.hid (fk_tick N F L hF1)
          have hfmt := Lib.hid (fm_take N hN1 F L)
          have hfdt := Lib.hid (fd_tick N F L (by omega))
          clear hkN hkN2 hk2
          go_wp2_with fail
          refine (ticks12 p v _ _ w _ H.out 0 L ⟨⟨Int.le_refl _, Int.le_refl _⟩, ⟨Int.le_refl _, Int.le_refl _⟩, ⟨Int.le_refl _, Int.le_refl _⟩, by show (0 : Int) ≤ 500 ∧ (500 : Int) ≤ 1048576; decide, by show 0 ≤ L ∧ L ≤ L; omega, by show (0 : Int) ≤ 500 ∧ (500 : Int) ≤ 1048576; decide⟩ (by decide) (by omega) hlenF.out (by show 1 ≤ 1000; decide)).mono ?_
          rw [hftk.out]
          rintro e w8 ⟨A3, c3, rfl, H4⟩
          simp only [List.length_cons, told_len, iota_len] at H4 ⊢
          have hcap3 := H4.ls_rd.caps.2
          obtain ⟨g3, o3, rfl⟩ := H4.ls_rd.some_ (by simp)
          obtain ⟨m0, m1, m2, m3⟩ := ctl_cells H4.ls_rd (k := 0) rfl
          obtain ⟨q0, q1, q2, q3⟩ := ctl_cells H4.ls_rd (k := 1) (x := (1, 4, L + 1, 0)) (by show (told 1 (L + 1) (iota N))[0]? = _; exact told_get 1 (L + 1) N 0 hN1)
          simp only [Nat.zero_mul, Nat.add_zero, Nat.one_mul] at m0 m1 m2 m3 q0 q1 q2 q3
          replace H4 := Lib.hid H4.at1
          have hN0 : (1 : Int) < ((N + 1 : Nat) : Int) := by omega
          have hN0' : (0 : Int) < ((N + 1 : Nat) : Int) := by omega
          have hlf : decide (L + 1 ≤ F + 2) = false := by rw [decide_eq_false_iff_not]; omega
          clear H
          go_wp2_with fail
          refine (take14 p v _ _ w _ H4.out 4 4 F 0 hlenF.out).mono ?_
          rw [hfmt.out]
          rintro e w9 ⟨rfl, H5⟩
          clear m0 m1 m2 m3 q0 q1 q2 q3
          obtain ⟨q0, q1, q2, q3⟩ := ctl_cells H5.at1.ls_rd (k := 1) (x := (1, 4, L + 1, 0)) (by show (told 1 (L + 1) (iota N))[0]? = _; exact told_get 1 (L + 1) N 0 hN1)
          simp only [Nat.one_mul] at q0 q1 q2 q3
          replace H5 := Lib.hid H5
          clear H4
          go_wp2_with fail
          refine (ticks12 p v _ _ w _ H5.out 1 (L + 1) ⟨by show (0 : Int) ≤ 1 ∧ (1 : Int) ≤ 1; decide, by show (0 : Int) ≤ 1 ∧ (1 : Int) ≤ 1; decide, by show (0 : Int) ≤ 1 ∧ (1 : Int) ≤ 1; decide, by show (0 : Int) ≤ 500 ∧ (500 : Int) ≤ 1048576; decide, by show 0 ≤ L + 1 ∧ L + 1 ≤ L + 1; omega, by show (0 : Int) ≤ 500 ∧ (500 : Int) ≤ 1048576; decide⟩ (by decide) (by omega) hlenF.out (by show 1 ≤ 1000; decide)).mono ?_
          rw [hfdt.out]
          rintro e w10 ⟨A4, c4, rfl, H6⟩
          simp only [told_len, iota_len] at H6 ⊢
          have hcap4 := H6.ls_rd.caps.2
          obtain ⟨g4, o4, rfl⟩ := H6.ls_rd.some_ (by rw [told_len, iota_len]; omega)
          obtain ⟨m0, m1, m2, m3⟩ := ctl_cells H6.ls_rd (told_get 1 (L + 1) N 0 hN1)
          clear q0 q1 q2 q3
          obtain ⟨q0, q1, q2, q3⟩ := ctl_cells H6.at2.ls_rd (k := 1) (x := (1, 4, L + 1, 0)) (by show (told 1 (L + 1) (iota N))[0]? = _; exact told_get 1 (L + 1) N 0 hN1)
          simp only [Nat.zero_mul, Nat.add_zero, Nat.one_mul] at m0 m1 m2 m3 q0 q1 q2 q3
          replace H6 := Lib.hid H6
          have hN00 : (0 : Int) < (N : Int) := by omega
          clear H5
          go_wp2_with fail
          go_quiet (fail)
          go_wp2_with fail
          go_ret
          exact ⟨rfl, (H6.out.tail.tail.tail.tail.drewN nq).under_old⟩
end Go.Proofs.Ythjinahfhpgpmaa

import Derived.Test.YtlpcofjmleghdaaPm
import Derived.IntWalk
import Derived.ChangeKeysEq
import Derived.Test.YtlpcofjmleghdaaProg
import Derived.Test.YtlpcofjmleghdaaLs
import Derived.Outline
import Derived.StillTailTactics
import Derived.Deep.DeepCutAuto
import Derived.Deep.CutBlock
import Derived.Deep.LoopGhost
import Derived.Deep.QuietTactic
import Derived.BigQuiet
import Derived.Deep.RegionHeld3
import Derived.Deep.RegionLaw
set_option linter.unusedVariables false
set_option linter.unusedSimpArgs false
namespace Go.Proofs.Ytlpcofjmleghdaa
open Go.RowKit
abbrev RI3 (p most : Nat) (xs : List Int) : HP := Rg (Enc.num .i64) 3 71 p most xs
abbrev RP (p most : Nat) (xs : List (Int × Int)) : HP := Rg ((Enc.num .i64).pair (Enc.num .i64)) 53 77 p most xs
abbrev LI (A : Option Addr) (n c : Nat) (xs : List Int) : HP := Ls (Enc.num .i64) 3 (.slice A n c) xs
theorem eqItems2 (x y : Int) (w : World) : (Op.equalIn 10000 53 (.agg #[.int .i64 x, .int .i64 y]) (.agg #[.int .i64 x, .int .i64 y])).run Try.prog w = .ok true w := by
  have hi : ∃ i, Try.prog.info? 3 = some i := Option.isSome_iff_exists.1 (by kernel_rfl)
  obtain ⟨i, hi⟩ := hi
  have hc : Try.prog.cellsOf 3 = 1 := by kernel_rfl
  have hk : Try.prog.plainKey 3 = true := by kernel_rfl
  rw [run_equalIn_array w 9999 _ _ Try.underlying53 hi, hc]
  have p0 := run_part_plain (P := Try.prog) (w := w) hk (xs := #[.int .i64 x, .int .i64 y]) (off := 0) (v := .int .i64 x) rfl
  have p1 := run_part_plain (P := Try.prog) (w := w) hk (xs := #[.int .i64 x, .int .i64 y]) (off := 1) (v := .int .i64 y) rfl
  simp [Op.eqItems, List.range, List.range.loop, p0, p1, go_sem, Try.underlying3]
theorem neqSame53 (x y : Int) (w : World) : (binOp .neq 53 (.agg #[.int .i64 x, .int .i64 y]) (.agg #[.int .i64 x, .int .i64 y])).run Try.prog w = .ok (.bool false) w := by
  have h := eqItems2 x y w
  simp [go_sem, h]
set_option maxRecDepth 100000 in
set_option maxHeartbeats 16000000 in
theorem ringmaps_walk (a : Int) (A0 : Option Addr) (N c0 : Nat) (l : List Int) (W : World) (ha : (Lit.int .i64 a).wf = true) (r1 : RdL (Enc.num .i64) W (.slice A0 N c0) l) :
    Calls Try.prog 6 #[.int .i64 a, .slice A0 N c0] W fun e w' => e = .returned (.bool true) ∧ Below W.heap.size W w' := by
  have hN := r1.caps.1
  have hc1 := r1.caps.2
  have r10 := Lib.hid r1
  replace hN := Lib.hid hN
  have K := Lib.hid (Hs.start W)
  obtain ⟨M, hM⟩ : ∃ y, bnd a = y := ⟨_, rfl⟩
  have hM2 := (bnd_in a).2
  rw [hM] at hM2
  have TN1 : Hid (∀ w R, Hs W w R → Calls Try.prog 19 #[.int .i64 a] w fun e w' => ∃ p, e = .returned (.pointer (some ⟨p, 0, none⟩)) ∧ Hs W w' (RI3 p M [] :: R)) := fun w R H => by
    have := new19 a w W R H
    rw [hM] at this
    exact this
  clear r1 ha hM
  by_cases g1 : 300 < N
  · have e1 : decide ((300 : Int) < (N : Int)) = true := by rw [decide_eq_true_eq]; omega
    have e2 : decide (300 < N) = true := decide_eq_true g1
    clear TN1 g1
    go_enter Try.func6, Try.ntmps6
    go_wp2_with fail
    refine (known7 W W _ K.out).mono ?_
    rintro e w2 ⟨rfl, K2⟩
    replace K2 := Lib.hid K2
    go_wp2_with fail
    go_ret
    exact ⟨rfl, K2.out.under_old⟩
  have e1 : decide ((300 : Int) < (N : Int)) = false := by rw [decide_eq_false_iff_not]; omega
  have e2 : decide (300 < N) = false := decide_eq_false g1
  have b1 : N ≤ 300 := by omega
  clear g1
  go_enter Try.func6, Try.ntmps6
  go_wp2_with fail
  refine (known7 W W _ K.out).mono ?_
  rintro e w2 ⟨rfl, K2⟩
  replace K2 := Lib.hid K2
  clear K
  go_wp2_with fail
  refine (TN1.out w2 _ K2.out).mono ?_
  rintro e w3 ⟨p, rfl, K3⟩
  have K5 := Lib.hid (K3.ls_nil (Enc.num .i64) 3)
  clear K2 K3 TN1 e1 e2
  go_wp2_with fail
  go_loopg [6, 7] N (fun g pv iv wr => ∃ (i : Nat) (A : Option Addr) (m c : Nat) (us : List Int), g + i = N ∧ iv = .int .i64 i ∧ pv = .slice A m c ∧ m ≤ i ∧ Hid (us.length = m) ∧ Hid (Hs W wr [LI A m c us, RI3 p M us, Old W]))
  case atStart => exact ⟨0, none, 0, 0, [], rfl, rfl, rfl, Nat.le_refl _, Lib.hid rfl, K5⟩
  case round =>
    clear K5
    obtain ⟨i, A, m, c, us, hg, rfl, rfl, hm, hus, K⟩ := hrel
    have hiN : i ≤ N := by omega
    replace hg := Lib.hid hg
    rcases Nat.lt_or_ge i N with hlt | hlt
    · have hi0 : (0 : Int) ≤ (i : Int) := by omega
      have hi1 : (i : Int) < (N : Int) := by omega
      have hwi : IntKind.i64.wrap ((i : Int) + 1) = ((i + 1 : Nat) : Int) := by rw [IntWalk.i64_in _ (by omega)]; omega
      obtain ⟨x, hx⟩ : ∃ x, l[i]? = some x := ⟨_, List.getElem?_eq_getElem (by have := hN.out; omega)⟩
      obtain ⟨g, off, rfl⟩ := (r10.out.old K.out.tail.tail).some_ (by have := hN.out; omega)
      have s0 : wr.cell? ⟨g, off + i, none⟩ = some (.int .i64 x) := by have := (r10.out.old K.out.tail.tail).cell hx 0 rfl; simpa [Enc.num] using this
      have so : W.cell? ⟨g, off + i, none⟩ = some (.int .i64 x) := by have := r10.out.cell hx 0 rfl; simpa [Enc.num] using this
      clear hx
      have TP := Lib.hid (put20 p M us x wr W _ K.out.at1 (by have := hus.out; omega))
      rw [hus.out] at TP
      by_cases hmc : m < M
      · rw [decide_eq_true hmc, if_pos hmc] at TP
        clear hmc
        go_wp2_with fail
        refine TP.out.mono ?_
        rintro e w5 ⟨rfl, K5⟩
        have s1 : w5.cell? ⟨g, off + i, none⟩ = some (.int .i64 x) := K5.at2.old_cell so
        replace K5 := Lib.hid K5.at1
        clear K TP s0
        go_wp2_with (at_builtin; refine wpList_append1N (E := Enc.num .i64) m hus.out rfl (.tmp 33) (.tmp 38) 27 rfl 3 _ 1 8 Try.underlying27 infoR19 rfl (by decide) (by decide) rfl rfl rfl (by simp) K5.out x (by omega) ?_)
        intro A6 c6 w6 K6
        replace K6 := Lib.hid K6
        clear K5 s1
        go_wp2_with fail
        go_roundg (N - (i + 1))
        case measure => have := hg.out; omega
        case rel => exact ⟨i + 1, A6, m + 1, c6, us ++ [x], by have := hg.out; omega, by go_num, rfl, by omega, Lib.hid (by rw [List.length_append, hus.out]; rfl), K6⟩
      · rw [decide_eq_false hmc, if_neg hmc] at TP
        clear hmc
        go_wp2_with fail
        refine TP.out.mono ?_
        rintro e w5 ⟨rfl, K5⟩
        replace K5 := Lib.hid K5.at1
        clear K TP s0
        go_wp2_with fail
        go_roundg (N - (i + 1))
        case measure => have := hg.out; omega
        case rel => exact ⟨i + 1, A, m, c, us, by have := hg.out; omega, by go_num, rfl, by omega, hus, K5⟩
    · have hi1 : decide ((i : Int) < (N : Int)) = false := by rw [decide_eq_false_iff_not]; omega
      have hi2 : decide (i < N) = false := by rw [decide_eq_false_iff_not]; omega
      have hm5 : m ≤ 300 := by omega
      have hms : us.length ≤ 1000000 := by have := hus.out; omega
      have hmm : (us.map mp).length ≤ 1000000 := by rw [List.length_map]; exact hms
      clear hlt hg hiN hm
      have T29 := Lib.hid (fun w R (H : Hs W w (RI3 p M us :: R)) => map29 p M us w W R H hms)
      have TA := Lib.hid (fun w R (H : Hs W w (RI3 p M us :: R)) => all27 p M us w W R H hms)
      have TL2 := Lib.hid (fun q w R (H : Hs W w (RP q M (us.map mp) :: R)) => len31 q M (us.map mp) w W R H)
      have TR2 := Lib.hid (fun q w R (H : Hs W w (RP q M (us.map mp) :: R)) => room32 q M (us.map mp) w W R H hmm (by omega))
      have TR := Lib.hid (fun w R (H : Hs W w (RI3 p M us :: R)) => room26 p M us w W R H hms (by omega))
      have TL := Lib.hid (fun w R (H : Hs W w (RI3 p M us :: R)) => len25 p M us w W R H)
      rw [List.length_map] at TL2 TR2
      rw [hus.out] at TA TL2 TR2 TR TL
      obtain ⟨rm, hrm⟩ : ∃ y, M - m = y := ⟨_, rfl⟩
      rw [hrm] at TR2 TR
      clear hms hmm hrm
      go_wp2_with fail
      refine (T29.out wr _ K.out.at1).mono ?_
      rintro e w5 ⟨q, rfl, K2⟩
      replace K2 := Lib.hid K2
      clear K hi1 hi2 T29
      go_wp2_with fail
      refine (TL2.out q w5 _ K2.out).mono ?_
      rintro e w6 ⟨rfl, rfl⟩
      clear TL2
      go_wp2_with fail
      refine (TR2.out q w5 _ K2.out).mono ?_
      rintro e w6 ⟨rfl, z, rfl⟩
      have K3 := Lib.hid (K2.out.drewN z)
      clear K2 TR2
      generalize World.drewN w5 z = w6 at K3 ⊢
      go_wp2_with fail
      refine (TR.out w6 _ K3.out.at1).mono ?_
      rintro e w7 ⟨rfl, z, rfl⟩
      have K4 := Lib.hid (K3.out.drewN z)
      clear K3 TR
      generalize World.drewN w6 z = w7 at K4 ⊢
      go_wp2_with fail
      refine (TA.out w7 _ K4.out.at1).mono ?_
      rintro e w8 ⟨A2, c2, rfl, K5⟩
      replace K5 := Lib.hid K5
      clear K4 TA
      go_wp2_with fail
      refine (eqlist28 _ _ us us w8 K5.out.ls_rd K5.out.at3.ls_rd).mono ?_
      rw [decide_eq_true rfl]
      rintro e w9 ⟨rfl, z, rfl⟩
      have K6 := Lib.hid ((K5.out.drewN z).tail.at1.at2)
      clear K5
      generalize World.drewN w8 z = w9 at K6 ⊢
      go_wp2_with fail
      go_loopg [9] m (fun g iv wr => ∃ i : Nat, g + i = m ∧ iv = .int .i64 i ∧ Hid (Hs W wr [LI A m c us, RP q M ((us.drop i).map mp), RI3 p M us, Old W]))
      case atStart => exact ⟨0, rfl, rfl, K6⟩
      case round =>
        clear K6
        obtain ⟨i, hg, rfl, K⟩ := hrel
        have hiN : i ≤ m := by omega
        replace hg := Lib.hid hg
        rcases Nat.lt_or_ge i m with hlt | hlt
        · have hi0 : (0 : Int) ≤ (i : Int) := by omega
          have hi1 : (i : Int) < (m : Int) := by omega
          have hwi : IntKind.i64.wrap ((i : Int) + 1) = ((i + 1 : Nat) : Int) := by rw [IntWalk.i64_in _ (by omega)]; omega
          have hil : i < us.length := by have := hus.out; omega
          obtain ⟨x, hx⟩ : ∃ x, us[i]? = some x := ⟨_, List.getElem?_eq_getElem hil⟩
          have hdr : (us.drop i).map mp = (x, ng x) :: (us.drop (i + 1)).map mp := by
            rw [List.drop_eq_getElem_cons hil]
            rw [List.getElem?_eq_getElem hil] at hx
            injection hx with hx
            rw [hx]
            rfl
          obtain ⟨g, off, rfl⟩ := K.out.ls_rd.some_ (by omega)
          have K2 := K.out.at1
          rw [hdr] at K2
          have TT := Lib.hid (takeC33 q M x (ng x) ((us.drop (i + 1)).map mp) wr W _ K2 (by have := hus.out; rw [List.length_map, List.length_drop]; omega))
          obtain ⟨y, hy⟩ : ∃ y, IntKind.i64.wrap (-x) = y := ⟨_, rfl⟩
          rw [show ng x = y from hy] at TT
          clear hdr K2 hil
          go_wp2_with fail
          refine TT.out.mono ?_
          rintro e w5 ⟨rfl, K5⟩
          have K6 := Lib.hid ((K5.alloc (.cells #[.int .i64 x, .int .i64 y] 53)))
          clear TT K K5
          go_upto_region 19 with (fail)
          generalize World.alloc w5 _ = w6 at K6 ⊢
          generalize w5.heap.size = z at K6 ⊢
          have t0 : w6.cell? ⟨z, 0, none⟩ = some (.int .i64 x) := K6.out.cellOf 0 rfl
          have t1 : w6.cell? ⟨z, 1, none⟩ = some (.int .i64 y) := K6.out.cellOf 1 rfl
          have s1 : w6.cell? ⟨g, off + i, none⟩ = some (.int .i64 x) := by have := K6.out.at2.ls_rd.cell hx 0 rfl; simpa [Enc.num] using this
          have hqn := neqSame53 x y
          clear hx
          go_quiet (fail)
          have K7 := Lib.hid ((K6.out.drewN nq).tail.at1)
          clear t0 t1 s1 K6
          generalize World.drewN w6 nq = w7 at K7 ⊢
          go_wp2_with fail
          go_roundg (m - (i + 1))
          case measure => have := hg.out; omega
          case rel => exact ⟨i + 1, by have := hg.out; omega, by go_num, K7⟩
        · have hi1 : decide ((i : Int) < (m : Int)) = false := by rw [decide_eq_false_iff_not]; omega
          have hi2 : decide (i < m) = false := by rw [decide_eq_false_iff_not]; omega
          have hdr : us.drop i = [] := List.drop_of_length_le (by have := hus.out; omega)
          rw [hdr] at K
          clear hlt hg hiN hdr
          go_wp2_with fail
          refine (takeN33 q M wr W _ K.out.at1).mono ?_
          rintro e w5 ⟨rfl, K5⟩
          have K6 := Lib.hid (K5.alloc (.cells #[.int .i64 0, .int .i64 0] 53)).tail
          clear K K5 hi1 hi2
          go_upto_region 22 with (fail)
          generalize World.alloc w5 _ = w6 at K6 ⊢
          go_wp2_with fail
          refine (TL.out w6 _ K6.out.at2).mono ?_
          rintro e w7 ⟨rfl, rfl⟩
          go_wp2_with fail
          go_ret
          exact ⟨rfl, K6.out.tail.tail.tail.under_old⟩
theorem ringmaps_walk2 (a : Int) (A0 : Option Addr) (N c0 : Nat) (l : List Int) (W : World) (ha : (Lit.int .i64 a).wf = true) (r1 : RdL (Enc.num .i64) W (.slice A0 N c0) l) (_ : ∀ x ∈ l, (Lit.int .i64 x).wf = true) :
    Calls Try.prog 6 #[.int .i64 a, .slice A0 N c0] W fun e w' => e = .returned (.bool true) ∧ Below W.heap.size W w' := ringmaps_walk a A0 N c0 l W ha r1
end Go.Proofs.Ytlpcofjmleghdaa

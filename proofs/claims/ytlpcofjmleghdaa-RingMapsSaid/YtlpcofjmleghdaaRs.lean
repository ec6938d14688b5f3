import Derived.Test.YtlpcofjmleghdaaRg
import Derived.IntWalk
import Derived.Test.YtlpcofjmleghdaaProg
import Derived.Test.YtlpcofjmleghdaaLs
import Derived.Outline
import Derived.StillTailTactics
import Derived.Deep.DeepCutAuto
import Derived.Deep.CutBlock
import Derived.Deep.LoopGhost
import Derived.Deep.QuietTactic
import Derived.BigQuiet
import Derived.Deep.RegionHeld3
import Derived.Deep.RegionLaw
set_option linter.unusedVariables false
set_option linter.unusedSimpArgs false
namespace Go.Proofs.Ytlpcofjmleghdaa
open Go.RowKit
theorem infoR13 : (Try.prog.info? 9).map (fun i => (i.zero, i.size, i.bytes)) = some (some (.string ⟨#[]⟩), 1, 16) := by kernel_rfl
set_option maxRecDepth 100000 in
theorem new13 (n : Int) (w w0 : World) (R : List HP) (H : Hs w0 w R) : Calls Try.prog 13 #[.int .i64 n] w fun e w' => ∃ p, e = .returned (.pointer (some ⟨p, 0, none⟩)) ∧ Hs w0 w' (Rg (Enc.str) 9 67 p (bnd n) [] :: R) := by
  obtain ⟨m, hm⟩ : ∃ m, bnd n = m := ⟨_, rfl⟩
  have T := bound37 n w
  rw [hm] at T
  rw [hm]
  have K := Lib.hid ((H.ls_nil (Enc.str) 9).alloc (.cells #[.slice none 0 0, .int .i64 m] 67))
  replace T := Lib.hid T
  clear H hm
  go_enter Try.func13, Try.ntmps13
  go_wp2_with fail
  refine T.out.mono ?_
  rintro e w' ⟨rfl, rfl⟩
  go_wp2_with fail
  go_ret
  exact ⟨_, rfl, Rg.close rfl K.out⟩
set_option maxRecDepth 100000 in
theorem put14 (p most : Nat) (xs : List ByteArray) (x : ByteArray) (w w0 : World) (R : List HP) (H : Hs w0 w (Rg (Enc.str) 9 67 p most xs :: R)) (hl : xs.length ≤ 1000000) :
    Calls Try.prog 14 #[.pointer (some ⟨p, 0, none⟩), Value.string x] w fun e w' => e = .returned (.bool (decide (xs.length < most))) ∧ Hs w0 w' (Rg (Enc.str) 9 67 p most (if xs.length < most then xs ++ [x] else xs) :: R) := by
  obtain ⟨A, c, K⟩ := Rg.open_ H
  obtain ⟨n, hn⟩ : ∃ n, xs.length = n := ⟨_, rfl⟩
  rw [hn] at K hl ⊢
  have p0 : w.cell? ⟨p, 0, none⟩ = some (.slice A n c) := K.cellOf 0 rfl
  have p1 : w.cell? ⟨p, 1, none⟩ = some (.int .i64 most) := K.cellOf 1 rfl
  replace K := Lib.hid K
  replace hn := Lib.hid hn
  clear H
  by_cases h : n < most
  · rw [if_pos h, decide_eq_true h]
    have e1 : decide ((most : Int) ≤ (n : Int)) = false := by rw [decide_eq_false_iff_not]; omega
    have e2 : decide (most ≤ n) = false := by rw [decide_eq_false_iff_not]; omega
    clear h
    go_enter Try.func14, Try.ntmps14
    go_wp2_with fail
    go_quiet (fail)
    have K2 := Lib.hid (K.out.drewN nq)
    clear p0 p1 K
    generalize World.drewN w nq = w2 at K2 ⊢
    have p0 : w2.cell? ⟨p, 0, none⟩ = some (.slice A n c) := K2.out.cellOf 0 rfl
    go_wp2_with (at_builtin; refine wpList_append1N (E := Enc.str) n hn.out rfl (.tmp 19) (.tmp 21) 36 rfl 9 _ 1 16 Try.underlying36 infoR13 rfl (by decide) (by decide) rfl rfl rfl (by simp) K2.out.at1 x (by omega) ?_)
    intro A6 c6 w6 K6
    have d0 := K6.at1.frozenOf 0
    have d1 : w6.cell? ⟨p, 0, none⟩ = some (.slice A n c) := K6.at1.cellOf 0 rfl
    have K7 := Lib.hid (K6.at1.setCell (i := 0) (.slice A6 (n + 1) c6))
    simp only [List.setIfInBounds_toArray, List.set_cons_zero, List.set_cons_succ] at K7
    clear K2 p0 K6
    go_wp2_with fail
    go_ret
    exact ⟨rfl, Rg.close (by rw [List.length_append, hn.out]; rfl) K7.out⟩
  · rw [if_neg h, decide_eq_false h]
    have e1 : decide ((most : Int) ≤ (n : Int)) = true := by rw [decide_eq_true_eq]; omega
    have e2 : decide (most ≤ n) = true := by rw [decide_eq_true_eq]; omega
    clear h
    go_enter Try.func14, Try.ntmps14
    go_wp2_with fail
    go_quiet (fail)
    have K2 := Lib.hid (K.out.drewN nq)
    clear p0 p1 K
    generalize World.drewN w nq = w2 at K2 ⊢
    go_wp2_with fail
    go_ret
    exact ⟨rfl, Rg.close hn.out.symm K2.out⟩
set_option maxRecDepth 100000 in
theorem front15 (p most : Nat) (xs : List ByteArray) (x : ByteArray) (w w0 : World) (R : List HP) (H : Hs w0 w (Rg (Enc.str) 9 67 p most xs :: R)) (hl : xs.length ≤ 1000000) (hmost : most ≤ 1000000) :
    Calls Try.prog 15 #[.pointer (some ⟨p, 0, none⟩), Value.string x] w fun e w' => e = .returned (.bool (decide (xs.length < 2 * most))) ∧ Hs w0 w' (Rg (Enc.str) 9 67 p most (if xs.length < 2 * most then x :: xs else xs) :: R) := by
  obtain ⟨A, c, K⟩ := Rg.open_ H
  have TI := Lib.hid (fun b w R H hb => insert38 (.slice A xs.length c) xs b x w w0 R H hb)
  obtain ⟨n, hn⟩ : ∃ n, xs.length = n := ⟨_, rfl⟩
  rw [hn] at K hl TI ⊢
  obtain ⟨m2, hm2⟩ : ∃ m, 2 * most = m := ⟨_, rfl⟩
  have hw2 : IntKind.i64.wrap (2 * (most : Int)) = (m2 : Int) := by rw [IntWalk.i64_in _ (by omega)]; omega
  rw [hm2]
  have p0 : w.cell? ⟨p, 0, none⟩ = some (.slice A n c) := K.cellOf 0 rfl
  have p1 : w.cell? ⟨p, 1, none⟩ = some (.int .i64 most) := K.cellOf 1 rfl
  replace K := Lib.hid K
  replace hn := Lib.hid hn
  replace hm2 := Lib.hid hm2
  clear H
  by_cases h : n < m2
  · rw [if_pos h, decide_eq_true h]
    have e1 : decide ((m2 : Int) ≤ (n : Int)) = false := by rw [decide_eq_false_iff_not]; omega
    have e2 : decide (m2 ≤ n) = false := by rw [decide_eq_false_iff_not]; omega
    clear h
    go_enter Try.func15, Try.ntmps15
    go_wp2_with fail
    go_quiet (fail)
    have K2 := Lib.hid (K.out.drewN nq)
    clear p0 p1 K
    generalize World.drewN w nq = w2 at K2 ⊢
    have p0 : w2.cell? ⟨p, 0, none⟩ = some (.slice A n c) := K2.out.cellOf 0 rfl
    have K3 := Lib.hid ((K2.out.alloc (.cells #[Value.string x] 9)).at2)
    clear K2
    go_wp2_with fail
    refine (TI.out _ _ _ K3.out (by omega)).mono ?_
    rintro e w6 ⟨A6, c6, rfl, K6⟩
    have d0 := K6.at1.frozenOf 0
    have d1 : w6.cell? ⟨p, 0, none⟩ = some (.slice A n c) := K6.at1.cellOf 0 rfl
    have K7 := Lib.hid (K6.at1.setCell (i := 0) (.slice A6 (n + 1) c6))
    simp only [List.setIfInBounds_toArray, List.set_cons_zero, List.set_cons_succ] at K7
    clear K3 p0 K6 TI
    go_wp2_with fail
    go_ret
    exact ⟨rfl, Rg.close (by rw [List.length_cons, hn.out]) K7.out⟩
  · rw [if_neg h, decide_eq_false h]
    have e1 : decide ((m2 : Int) ≤ (n : Int)) = true := by rw [decide_eq_true_eq]; omega
    have e2 : decide (m2 ≤ n) = true := by rw [decide_eq_true_eq]; omega
    clear h TI
    go_enter Try.func15, Try.ntmps15
    go_wp2_with fail
    go_quiet (fail)
    have K2 := Lib.hid (K.out.drewN nq)
    clear p0 p1 K
    generalize World.drewN w nq = w2 at K2 ⊢
    go_wp2_with fail
    go_ret
    exact ⟨rfl, Rg.close hn.out.symm K2.out⟩
set_option maxRecDepth 100000 in
theorem peekIn16 (p most : Nat) (xs : List ByteArray) (i : Nat) (x : ByteArray) (hx : xs[i]? = some x) (w w0 : World) (R : List HP) (H : Hs w0 w (Rg (Enc.str) 9 67 p most xs :: R)) :
    Calls Try.prog 16 #[.pointer (some ⟨p, 0, none⟩), .int .i64 i] w fun e w' => e = .returned (.tuple #[Value.string x, .bool true]) ∧ w = w' := by
  obtain ⟨A, c, K⟩ := Rg.open_ H
  have hi := (List.getElem?_eq_some_iff.1 hx).1
  have hcp := K.at1.ls_rd.caps
  obtain ⟨g, off, rfl⟩ := K.at1.ls_rd.some_ (by omega)
  have s0 : w.cell? ⟨g, off + i, none⟩ = some (Value.string x) := by have := K.at1.ls_rd.cell hx 0 rfl; simpa [Enc.num, Enc.str] using this
  obtain ⟨n, hn⟩ : ∃ n, xs.length = n := ⟨_, rfl⟩
  rw [hn] at K hi hcp
  have p0 : w.cell? ⟨p, 0, none⟩ = some (.slice (some ⟨g, off, none⟩) n c) := K.cellOf 0 rfl
  have hi0 : (0 : Int) ≤ (i : Int) := by omega
  have hi1 : (i : Int) < (n : Int) := by omega
  have e0 : decide ((i : Int) < 0) = false := by rw [decide_eq_false_iff_not]; omega
  have e1 : decide ((n : Int) ≤ (i : Int)) = false := by rw [decide_eq_false_iff_not]; omega
  have e2 : decide (n ≤ i) = false := by rw [decide_eq_false_iff_not]; omega
  clear H K hx hcp hn
  go_enter Try.func16, Try.ntmps16
  go_wp2_with fail
  go_ret2
  exact ⟨rfl, rfl⟩
set_option maxRecDepth 100000 in
theorem peekOut16 (p most : Nat) (xs : List ByteArray) (i : Int) (hi : i < 0 ∨ (xs.length : Int) ≤ i) (w w0 : World) (R : List HP) (H : Hs w0 w (Rg (Enc.str) 9 67 p most xs :: R)) :
    Calls Try.prog 16 #[.pointer (some ⟨p, 0, none⟩), .int .i64 i] w fun e w' => e = .returned (.tuple #[.string ⟨#[]⟩, .bool false]) ∧ w = w' := by
  obtain ⟨A, c, K⟩ := Rg.open_ H
  obtain ⟨n, hn⟩ : ∃ n, xs.length = n := ⟨_, rfl⟩
  rw [hn] at K hi
  have p0 : w.cell? ⟨p, 0, none⟩ = some (.slice A n c) := K.cellOf 0 rfl
  by_cases h0 : i < 0
  · have e0 : decide (i < 0) = true := decide_eq_true h0
    clear H K hn hi
    go_enter Try.func16, Try.ntmps16
    go_wp2_with fail
    go_ret2
    exact ⟨rfl, rfl⟩
  · have e0 : decide (i < 0) = false := decide_eq_false h0
    obtain ⟨j, rfl⟩ := Int.eq_ofNat_of_zero_le (show 0 ≤ i by omega)
    have e1 : decide ((n : Int) ≤ (j : Int)) = true := by rw [decide_eq_true_eq]; omega
    have e2 : decide (n ≤ j) = true := by rw [decide_eq_true_eq]; omega
    clear H K hn hi h0
    go_enter Try.func16, Try.ntmps16
    go_wp2_with fail
    go_ret2
    exact ⟨rfl, rfl⟩
set_option maxRecDepth 100000 in
theorem takeN17 (p most : Nat) (w w0 : World) (R : List HP) (H : Hs w0 w (Rg (Enc.str) 9 67 p most [] :: R)) :
    Calls Try.prog 17 #[.pointer (some ⟨p, 0, none⟩)] w fun e w' => e = .returned (.tuple #[.string ⟨#[]⟩, .bool false]) ∧ w = w' := by
  have T := Lib.hid (peekOut16 p most [] 0 (.inr (Int.le_refl _)) w w0 R H)
  clear H
  go_enter Try.func17, Try.ntmps17
  go_wp2_with fail
  refine T.out.mono ?_
  rintro e w2 ⟨rfl, rfl⟩
  go_wp2_with fail
  go_ret2
  exact ⟨rfl, rfl⟩
set_option maxRecDepth 100000 in
theorem takeC17 (p most : Nat) (x : ByteArray) (xs : List ByteArray) (w w0 : World) (R : List HP) (H : Hs w0 w (Rg (Enc.str) 9 67 p most (x :: xs) :: R)) (hl : xs.length ≤ 1000000) :
    Calls Try.prog 17 #[.pointer (some ⟨p, 0, none⟩)] w fun e w' => e = .returned (.tuple #[Value.string x, .bool true]) ∧ Hs w0 w' (Rg (Enc.str) 9 67 p most xs :: R) := by
  have T := Lib.hid (peekIn16 p most (x :: xs) 0 x rfl w w0 R H)
  obtain ⟨A, c, K⟩ := Rg.open_ H
  have TD := Lib.hid (delete39 (.slice A (x :: xs).length c) (x :: xs) 0 1 w w0 _ K.at1 (by omega) (by omega) (by rw [List.length_cons]; omega) (by rw [List.length_cons]; omega))
  obtain ⟨n, hn⟩ : ∃ n, xs.length = n := ⟨_, rfl⟩
  rw [List.length_cons, hn] at K TD
  have p0 : w.cell? ⟨p, 0, none⟩ = some (.slice A (n + 1) c) := K.cellOf 0 rfl
  replace hn := Lib.hid hn
  clear H K
  go_enter Try.func17, Try.ntmps17
  go_wp2_with fail
  refine T.out.mono ?_
  rintro e w2 ⟨rfl, rfl⟩
  clear T
  go_wp2_with fail
  refine TD.out.mono ?_
  rintro e w6 ⟨A6, c6, m6, hm6, rfl, K6⟩
  obtain rfl : m6 = n := by rw [hm6]; rfl
  have K6 : Hs w0 w6 (Ls (Enc.str) 9 (.slice A6 m6 c6) xs :: Blk p (.cells #[.slice A (m6 + 1) c, .int .i64 most] 67) :: R) := K6
  have d0 := K6.at1.frozenOf 0
  have d1 : w6.cell? ⟨p, 0, none⟩ = some (.slice A (m6 + 1) c) := K6.at1.cellOf 0 rfl
  have K7 := Lib.hid (K6.at1.setCell (i := 0) (.slice A6 m6 c6))
  simp only [List.setIfInBounds_toArray, List.set_cons_zero, List.set_cons_succ] at K7
  clear p0 K6 TD hm6
  go_wp2_with fail
  go_ret2
  exact ⟨rfl, Rg.close hn.out.symm K7.out⟩
set_option maxRecDepth 100000 in
theorem len18 (p most : Nat) (xs : List ByteArray) (w w0 : World) (R : List HP) (H : Hs w0 w (Rg (Enc.str) 9 67 p most xs :: R)) :
    Calls Try.prog 18 #[.pointer (some ⟨p, 0, none⟩)] w fun e w' => e = .returned (.int .i64 xs.length) ∧ w = w' := by
  obtain ⟨A, c, K⟩ := Rg.open_ H
  obtain ⟨n, hn⟩ : ∃ n, xs.length = n := ⟨_, rfl⟩
  rw [hn] at K ⊢
  have p0 : w.cell? ⟨p, 0, none⟩ = some (.slice A n c) := K.cellOf 0 rfl
  clear H K hn
  go_enter Try.func18, Try.ntmps18
  go_wp2_with fail
  go_ret
  exact ⟨rfl, rfl⟩
end Go.Proofs.Ytlpcofjmleghdaa

import Derived.Test.YtlpcofjmleghdaaCb
import Derived.Test.YtlpcofjmleghdaaIn
import Derived.Test.YtlpcofjmleghdaaDl
import Derived.IntWalk
import Derived.Test.YtlpcofjmleghdaaProg
import Derived.Test.YtlpcofjmleghdaaLs
import Derived.Outline
import Derived.StillTailTactics
import Derived.Deep.DeepCutAuto
import Derived.Deep.CutBlock
import Derived.Deep.LoopGhost
import Derived.Deep.QuietTactic
import Derived.BigQuiet
import Derived.Deep.RegionHeld3
import Derived.Deep.RegionLaw
set_option linter.unusedVariables false
set_option linter.unusedSimpArgs false
namespace Go.Proofs.Ytlpcofjmleghdaa
open Go.RowKit
/-- A queue: block p, its struct's type T, room for most; xs: what lies in it. -/
def Rg {α : Type} (E : Enc α) (t T : TypeId) (p most : Nat) (xs : List α) : HP := Ex fun x : Option Addr × Nat => Star (Blk p (.cells #[.slice x.1 xs.length x.2, .int .i64 most] T)) (Ls E t (.slice x.1 xs.length x.2) xs)
section
variable {w0 w : World} {R : List HP} {α : Type} {E : Enc α} {t T : TypeId} {p most : Nat} {xs : List α}
theorem Rg.open_ (H : Hs w0 w (Rg E t T p most xs :: R)) : ∃ A c, Hs w0 w (Blk p (.cells #[.slice A xs.length c, .int .i64 most] T) :: Ls E t (.slice A xs.length c) xs :: R) := by
  obtain ⟨⟨A, c⟩, h⟩ := H.ex
  exact ⟨A, c, h.part⟩
theorem Rg.close {A : Option Addr} {n c : Nat} (hn : n = xs.length) (H : Hs w0 w (Blk p (.cells #[.slice A n c, .int .i64 most] T) :: Ls E t (.slice A n c) xs :: R)) : Hs w0 w (Rg E t T p most xs :: R) := by
  subst hn
  exact Hs.mk_ex (f := fun x : Option Addr × Nat => Star (Blk p (.cells #[.slice x.1 xs.length x.2, .int .i64 most] T)) (Ls E t (.slice x.1 xs.length x.2) xs)) (A, c) H.join
end
theorem infoR19 : (Try.prog.info? 3).map (fun i => (i.zero, i.size, i.bytes)) = some (some (.int .i64 0), 1, 8) := by kernel_rfl
set_option maxRecDepth 100000 in
theorem new19 (n : Int) (w w0 : World) (R : List HP) (H : Hs w0 w R) : Calls Try.prog 19 #[.int .i64 n] w fun e w' => ∃ p, e = .returned (.pointer (some ⟨p, 0, none⟩)) ∧ Hs w0 w' (Rg (Enc.num .i64) 3 71 p (bnd n) [] :: R) := by
  obtain ⟨m, hm⟩ : ∃ m, bnd n = m := ⟨_, rfl⟩
  have T := bound37 n w
  rw [hm] at T
  rw [hm]
  have K := Lib.hid ((H.ls_nil (Enc.num .i64) 3).alloc (.cells #[.slice none 0 0, .int .i64 m] 71))
  replace T := Lib.hid T
  clear H hm
  go_enter Try.func19, Try.ntmps19
  go_wp2_with fail
  refine T.out.mono ?_
  rintro e w' ⟨rfl, rfl⟩
  go_wp2_with fail
  go_ret
  exact ⟨_, rfl, Rg.close rfl K.out⟩
set_option maxRecDepth 100000 in
theorem put20 (p most : Nat) (xs : List Int) (x : Int) (w w0 : World) (R : List HP) (H : Hs w0 w (Rg (Enc.num .i64) 3 71 p most xs :: R)) (hl : xs.length ≤ 1000000) :
    Calls Try.prog 20 #[.pointer (some ⟨p, 0, none⟩), Value.int .i64 x] w fun e w' => e = .returned (.bool (decide (xs.length < most))) ∧ Hs w0 w' (Rg (Enc.num .i64) 3 71 p most (if xs.length < most then xs ++ [x] else xs) :: R) := by
  obtain ⟨A, c, K⟩ := Rg.open_ H
  obtain ⟨n, hn⟩ : ∃ n, xs.length = n := ⟨_, rfl⟩
  rw [hn] at K hl ⊢
  have p0 : w.cell? ⟨p, 0, none⟩ = some (.slice A n c) := K.cellOf 0 rfl
  have p1 : w.cell? ⟨p, 1, none⟩ = some (.int .i64 most) := K.cellOf 1 rfl
  replace K := Lib.hid K
  replace hn := Lib.hid hn
  clear H
  by_cases h : n < most
  · rw [if_pos h, decide_eq_true h]
    have e1 : decide ((most : Int) ≤ (n : Int)) = false := by rw [decide_eq_false_iff_not]; omega
    have e2 : decide (most ≤ n) = false := by rw [decide_eq_false_iff_not]; omega
    clear h
    go_enter Try.func20, Try.ntmps20
    go_wp2_with fail
    go_quiet (fail)
    have K2 := Lib.hid (K.out.drewN nq)
    clear p0 p1 K
    generalize World.drewN w nq = w2 at K2 ⊢
    have p0 : w2.cell? ⟨p, 0, none⟩ = some (.slice A n c) := K2.out.cellOf 0 rfl
    go_wp2_with (at_builtin; refine wpList_append1N (E := Enc.num .i64) n hn.out rfl (.tmp 19) (.tmp 21) 27 rfl 3 _ 1 8 Try.underlying27 infoR19 rfl (by decide) (by decide) rfl rfl rfl (by simp) K2.out.at1 x (by omega) ?_)
    intro A6 c6 w6 K6
    have d0 := K6.at1.frozenOf 0
    have d1 : w6.cell? ⟨p, 0, none⟩ = some (.slice A n c) := K6.at1.cellOf 0 rfl
    have K7 := Lib.hid (K6.at1.setCell (i := 0) (.slice A6 (n + 1) c6))
    simp only [List.setIfInBounds_toArray, List.set_cons_zero, List.set_cons_succ] at K7
    clear K2 p0 K6
    go_wp2_with fail
    go_ret
    exact ⟨rfl, Rg.close (by rw [List.length_append, hn.out]; rfl) K7.out⟩
  · rw [if_neg h, decide_eq_false h]
    have e1 : decide ((most : Int) ≤ (n : Int)) = true := by rw [decide_eq_true_eq]; omega
    have e2 : decide (most ≤ n) = true := by rw [decide_eq_true_eq]; omega
    clear h
    go_enter Try.func20, Try.ntmps20
    go_wp2_with fail
    go_quiet (fail)
    have K2 := Lib.hid (K.out.drewN nq)
    clear p0 p1 K
    generalize World.drewN w nq = w2 at K2 ⊢
    go_wp2_with fail
    go_ret
    exact ⟨rfl, Rg.close hn.out.symm K2.out⟩
set_option maxRecDepth 100000 in
theorem front21 (p most : Nat) (xs : List Int) (x : Int) (w w0 : World) (R : List HP) (H : Hs w0 w (Rg (Enc.num .i64) 3 71 p most xs :: R)) (hl : xs.length ≤ 1000000) (hmost : most ≤ 1000000) :
    Calls Try.prog 21 #[.pointer (some ⟨p, 0, none⟩), Value.int .i64 x] w fun e w' => e = .returned (.bool (decide (xs.length < 2 * most))) ∧ Hs w0 w' (Rg (Enc.num .i64) 3 71 p most (if xs.length < 2 * most then x :: xs else xs) :: R) := by
  obtain ⟨A, c, K⟩ := Rg.open_ H
  have TI := Lib.hid (fun b w R H hb => insert40 (.slice A xs.length c) xs b x w w0 R H hb)
  obtain ⟨n, hn⟩ : ∃ n, xs.length = n := ⟨_, rfl⟩
  rw [hn] at K hl TI ⊢
  obtain ⟨m2, hm2⟩ : ∃ m, 2 * most = m := ⟨_, rfl⟩
  have hw2 : IntKind.i64.wrap (2 * (most : Int)) = (m2 : Int) := by rw [IntWalk.i64_in _ (by omega)]; omega
  rw [hm2]
  have p0 : w.cell? ⟨p, 0, none⟩ = some (.slice A n c) := K.cellOf 0 rfl
  have p1 : w.cell? ⟨p, 1, none⟩ = some (.int .i64 most) := K.cellOf 1 rfl
  replace K := Lib.hid K
  replace hn := Lib.hid hn
  replace hm2 := Lib.hid hm2
  clear H
  by_cases h : n < m2
  · rw [if_pos h, decide_eq_true h]
    have e1 : decide ((m2 : Int) ≤ (n : Int)) = false := by rw [decide_eq_false_iff_not]; omega
    have e2 : decide (m2 ≤ n) = false := by rw [decide_eq_false_iff_not]; omega
    clear h
    go_enter Try.func21, Try.ntmps21
    go_wp2_with fail
    go_quiet (fail)
    have K2 := Lib.hid (K.out.drewN nq)
    clear p0 p1 K
    generalize World.drewN w nq = w2 at K2 ⊢
    have p0 : w2.cell? ⟨p, 0, none⟩ = some (.slice A n c) := K2.out.cellOf 0 rfl
    have K3 := Lib.hid ((K2.out.alloc (.cells #[Value.int .i64 x] 3)).at2)
    clear K2
    go_wp2_with fail
    refine (TI.out _ _ _ K3.out (by omega)).mono ?_
    rintro e w6 ⟨A6, c6, rfl, K6⟩
    have d0 := K6.at1.frozenOf 0
    have d1 : w6.cell? ⟨p, 0, none⟩ = some (.slice A n c) := K6.at1.cellOf 0 rfl
    have K7 := Lib.hid (K6.at1.setCell (i := 0) (.slice A6 (n + 1) c6))
    simp only [List.setIfInBounds_toArray, List.set_cons_zero, List.set_cons_succ] at K7
    clear K3 p0 K6 TI
    go_wp2_with fail
    go_ret
    exact ⟨rfl, Rg.close (by rw [List.length_cons, hn.out]) K7.out⟩
  · rw [if_neg h, decide_eq_false h]
    have e1 : decide ((m2 : Int) ≤ (n : Int)) = true := by rw [decide_eq_true_eq]; omega
    have e2 : decide (m2 ≤ n) = true := by rw [decide_eq_true_eq]; omega
    clear h TI
    go_enter Try.func21, Try.ntmps21
    go_wp2_with fail
    go_quiet (fail)
    have K2 := Lib.hid (K.out.drewN nq)
    clear p0 p1 K
    generalize World.drewN w nq = w2 at K2 ⊢
    go_wp2_with fail
    go_ret
    exact ⟨rfl, Rg.close hn.out.symm K2.out⟩
set_option maxRecDepth 100000 in
theorem peekIn23 (p most : Nat) (xs : List Int) (i : Nat) (x : Int) (hx : xs[i]? = some x) (w w0 : World) (R : List HP) (H : Hs w0 w (Rg (Enc.num .i64) 3 71 p most xs :: R)) :
    Calls Try.prog 23 #[.pointer (some ⟨p, 0, none⟩), .int .i64 i] w fun e w' => e = .returned (.tuple #[Value.int .i64 x, .bool true]) ∧ w = w' := by
  obtain ⟨A, c, K⟩ := Rg.open_ H
  have hi := (List.getElem?_eq_some_iff.1 hx).1
  have hcp := K.at1.ls_rd.caps
  obtain ⟨g, off, rfl⟩ := K.at1.ls_rd.some_ (by omega)
  have s0 : w.cell? ⟨g, off + i, none⟩ = some (Value.int .i64 x) := by have := K.at1.ls_rd.cell hx 0 rfl; simpa [Enc.num, Enc.str] using this
  obtain ⟨n, hn⟩ : ∃ n, xs.length = n := ⟨_, rfl⟩
  rw [hn] at K hi hcp
  have p0 : w.cell? ⟨p, 0, none⟩ = some (.slice (some ⟨g, off, none⟩) n c) := K.cellOf 0 rfl
  have hi0 : (0 : Int) ≤ (i : Int) := by omega
  have hi1 : (i : Int) < (n : Int) := by omega
  have e0 : decide ((i : Int) < 0) = false := by rw [decide_eq_false_iff_not]; omega
  have e1 : decide ((n : Int) ≤ (i : Int)) = false := by rw [decide_eq_false_iff_not]; omega
  have e2 : decide (n ≤ i) = false := by rw [decide_eq_false_iff_not]; omega
  clear H K hx hcp hn
  go_enter Try.func23, Try.ntmps23
  go_wp2_with fail
  go_ret2
  exact ⟨rfl, rfl⟩
set_option maxRecDepth 100000 in
theorem peekOut23 (p most : Nat) (xs : List Int) (i : Int) (hi : i < 0 ∨ (xs.length : Int) ≤ i) (w w0 : World) (R : List HP) (H : Hs w0 w (Rg (Enc.num .i64) 3 71 p most xs :: R)) :
    Calls Try.prog 23 #[.pointer (some ⟨p, 0, none⟩), .int .i64 i] w fun e w' => e = .returned (.tuple #[.int .i64 0, .bool false]) ∧ w = w' := by
  obtain ⟨A, c, K⟩ := Rg.open_ H
  obtain ⟨n, hn⟩ : ∃ n, xs.length = n := ⟨_, rfl⟩
  rw [hn] at K hi
  have p0 : w.cell? ⟨p, 0, none⟩ = some (.slice A n c) := K.cellOf 0 rfl
  by_cases h0 : i < 0
  · have e0 : decide (i < 0) = true := decide_eq_true h0
    clear H K hn hi
    go_enter Try.func23, Try.ntmps23
    go_wp2_with fail
    go_ret2
    exact ⟨rfl, rfl⟩
  · have e0 : decide (i < 0) = false := decide_eq_false h0
    obtain ⟨j, rfl⟩ := Int.eq_ofNat_of_zero_le (show 0 ≤ i by omega)
    have e1 : decide ((n : Int) ≤ (j : Int)) = true := by rw [decide_eq_true_eq]; omega
    have e2 : decide (n ≤ j) = true := by rw [decide_eq_true_eq]; omega
    clear H K hn hi h0
    go_enter Try.func23, Try.ntmps23
    go_wp2_with fail
    go_ret2
    exact ⟨rfl, rfl⟩
set_option maxRecDepth 100000 in
theorem takeN22 (p most : Nat) (w w0 : World) (R : List HP) (H : Hs w0 w (Rg (Enc.num .i64) 3 71 p most [] :: R)) :
    Calls Try.prog 22 #[.pointer (some ⟨p, 0, none⟩)] w fun e w' => e = .returned (.tuple #[.int .i64 0, .bool false]) ∧ w = w' := by
  have T := Lib.hid (peekOut23 p most [] 0 (.inr (Int.le_refl _)) w w0 R H)
  clear H
  go_enter Try.func22, Try.ntmps22
  go_wp2_with fail
  refine T.out.mono ?_
  rintro e w2 ⟨rfl, rfl⟩
  go_wp2_with fail
  go_ret2
  exact ⟨rfl, rfl⟩
set_option maxRecDepth 100000 in
theorem takeC22 (p most : Nat) (x : Int) (xs : List Int) (w w0 : World) (R : List HP) (H : Hs w0 w (Rg (Enc.num .i64) 3 71 p most (x :: xs) :: R)) (hl : xs.length ≤ 1000000) :
    Calls Try.prog 22 #[.pointer (some ⟨p, 0, none⟩)] w fun e w' => e = .returned (.tuple #[Value.int .i64 x, .bool true]) ∧ Hs w0 w' (Rg (Enc.num .i64) 3 71 p most xs :: R) := by
  have T := Lib.hid (peekIn23 p most (x :: xs) 0 x rfl w w0 R H)
  obtain ⟨A, c, K⟩ := Rg.open_ H
  have TD := Lib.hid (delete41 (.slice A (x :: xs).length c) (x :: xs) 0 1 w w0 _ K.at1 (by omega) (by omega) (by rw [List.length_cons]; omega) (by rw [List.length_cons]; omega))
  obtain ⟨n, hn⟩ : ∃ n, xs.length = n := ⟨_, rfl⟩
  rw [List.length_cons, hn] at K TD
  have p0 : w.cell? ⟨p, 0, none⟩ = some (.slice A (n + 1) c) := K.cellOf 0 rfl
  replace hn := Lib.hid hn
  clear H K
  go_enter Try.func22, Try.ntmps22
  go_wp2_with fail
  refine T.out.mono ?_
  rintro e w2 ⟨rfl, rfl⟩
  clear T
  go_wp2_with fail
  refine TD.out.mono ?_
  rintro e w6 ⟨A6, c6, m6, hm6, rfl, K6⟩
  obtain rfl : m6 = n := by rw [hm6]; rfl
  have K6 : Hs w0 w6 (Ls (Enc.num .i64) 3 (.slice A6 m6 c6) xs :: Blk p (.cells #[.slice A (m6 + 1) c, .int .i64 most] 71) :: R) := K6
  have d0 := K6.at1.frozenOf 0
  have d1 : w6.cell? ⟨p, 0, none⟩ = some (.slice A (m6 + 1) c) := K6.at1.cellOf 0 rfl
  have K7 := Lib.hid (K6.at1.setCell (i := 0) (.slice A6 m6 c6))
  simp only [List.setIfInBounds_toArray, List.set_cons_zero, List.set_cons_succ] at K7
  clear p0 K6 TD hm6
  go_wp2_with fail
  go_ret2
  exact ⟨rfl, Rg.close hn.out.symm K7.out⟩
set_option maxRecDepth 100000 in
theorem len25 (p most : Nat) (xs : List Int) (w w0 : World) (R : List HP) (H : Hs w0 w (Rg (Enc.num .i64) 3 71 p most xs :: R)) :
    Calls Try.prog 25 #[.pointer (some ⟨p, 0, none⟩)] w fun e w' => e = .returned (.int .i64 xs.length) ∧ w = w' := by
  obtain ⟨A, c, K⟩ := Rg.open_ H
  obtain ⟨n, hn⟩ : ∃ n, xs.length = n := ⟨_, rfl⟩
  rw [hn] at K ⊢
  have p0 : w.cell? ⟨p, 0, none⟩ = some (.slice A n c) := K.cellOf 0 rfl
  clear H K hn
  go_enter Try.func25, Try.ntmps25
  go_wp2_with fail
  go_ret
  exact ⟨rfl, rfl⟩
set_option maxRecDepth 100000 in
theorem room26 (p most : Nat) (xs : List Int) (w w0 : World) (R : List HP) (H : Hs w0 w (Rg (Enc.num .i64) 3 71 p most xs :: R)) (hl : xs.length ≤ 1000000) (hmost : most ≤ 1000000) :
    Calls Try.prog 26 #[.pointer (some ⟨p, 0, none⟩)] w fun e w' => e = .returned (.int .i64 ((most - xs.length : Nat) : Int)) ∧ ∃ n, w' = w.drewN n := by
  obtain ⟨A, c, K⟩ := Rg.open_ H
  obtain ⟨n, hn⟩ : ∃ n, xs.length = n := ⟨_, rfl⟩
  rw [hn] at K hl ⊢
  have p0 : w.cell? ⟨p, 0, none⟩ = some (.slice A n c) := K.cellOf 0 rfl
  have p1 : w.cell? ⟨p, 1, none⟩ = some (.int .i64 most) := K.cellOf 1 rfl
  obtain ⟨d, hd⟩ : ∃ d : Int, (most : Int) - (n : Int) = d := ⟨_, rfl⟩
  have hw : IntKind.i64.wrap ((most : Int) - (n : Int)) = d := by rw [IntWalk.i64_in _ (by omega)]; exact hd
  clear H K hn
  rcases (by omega : d < 0 ∨ d = 0 ∨ 0 < d) with h | h | h
  · have e0 : ((most - n : Nat) : Int) = 0 := by omega
    rw [e0]
    have e1 : max d 0 = 0 := by omega
    have e2 : decide (d < 0) = true := decide_eq_true h
    have e3 : decide (0 < d) = false := by rw [decide_eq_false_iff_not]; omega
    have e4 : decide (d ≤ 0) = true := by rw [decide_eq_true_eq]; omega
    have f1 : ¬ (0 ≤ d) := by omega
    clear h hd e0 hl hmost
    go_enter Try.func26, Try.ntmps26
    go_wp2_with fail
    go_quiet (fail)
    go_wp2_with fail
    go_ret
    exact ⟨rfl, _, rfl⟩
  · have e0 : ((most - n : Nat) : Int) = 0 := by omega
    rw [e0]
    subst h
    clear hd e0 hl hmost
    go_enter Try.func26, Try.ntmps26
    go_wp2_with fail
    go_quiet (fail)
    go_wp2_with fail
    go_ret
    exact ⟨rfl, _, rfl⟩
  · have e0 : ((most - n : Nat) : Int) = d := by omega
    rw [e0]
    have e1 : max d 0 = d := by omega
    have e2 : decide (d < 0) = false := by rw [decide_eq_false_iff_not]; omega
    have e3 : decide (0 < d) = true := decide_eq_true h
    have e4 : decide (d ≤ 0) = false := by rw [decide_eq_false_iff_not]; omega
    have f1 : 0 ≤ d := by omega
    clear hd e0 hl hmost
    go_enter Try.func26, Try.ntmps26
    go_wp2_with fail
    go_quiet (fail)
    go_wp2_with fail
    go_ret
    exact ⟨rfl, _, rfl⟩
set_option maxRecDepth 100000 in
theorem clear24 (p most : Nat) (xs : List Int) (w w0 : World) (R : List HP) (H : Hs w0 w (Rg (Enc.num .i64) 3 71 p most xs :: R)) :
    Calls Try.prog 24 #[.pointer (some ⟨p, 0, none⟩)] w fun e w' => e = .returned (.tuple #[]) ∧ Hs w0 w' (Rg (Enc.num .i64) 3 71 p most [] :: R) := by
  obtain ⟨A, c, K⟩ := Rg.open_ H
  obtain ⟨n, hn⟩ : ∃ n, xs.length = n := ⟨_, rfl⟩
  rw [hn] at K
  have d0 := K.frozenOf 0
  have d1 : w.cell? ⟨p, 0, none⟩ = some (.slice A n c) := K.cellOf 0 rfl
  have K7 := Lib.hid ((K.setCell (i := 0) (.slice none 0 0)).at1.tail.ls_nil (Enc.num .i64) 3)
  simp only [List.setIfInBounds_toArray, List.set_cons_zero, List.set_cons_succ] at K7
  clear H K hn
  go_enter Try.func24, Try.ntmps24
  go_wp2_with fail
  go_end0
  exact ⟨rfl, Rg.close (n := 0) rfl K7.out.at1⟩
set_option maxRecDepth 100000 in
theorem all27 (p most : Nat) (xs : List Int) (w w0 : World) (R : List HP) (H : Hs w0 w (Rg (Enc.num .i64) 3 71 p most xs :: R)) (hl : xs.length ≤ 1000000) :
    Calls Try.prog 27 #[.pointer (some ⟨p, 0, none⟩)] w fun e w' => ∃ A c, e = .returned (.slice A xs.length c) ∧ Hs w0 w' (Ls (Enc.num .i64) 3 (.slice A xs.length c) xs :: Rg (Enc.num .i64) 3 71 p most xs :: R) := by
  obtain ⟨A, c, K⟩ := Rg.open_ H
  have T := Lib.hid (clone42 (.slice A xs.length c) xs w w0 _ H K.at1.ls_rd (by omega))
  have p0 : w.cell? ⟨p, 0, none⟩ = some (.slice A xs.length c) := K.cellOf 0 rfl
  generalize xs.length = n at *
  clear H K
  go_enter Try.func27, Try.ntmps27
  go_wp2_with fail
  refine T.out.mono ?_
  rintro e w2 ⟨A2, c2, rfl, K2⟩
  replace K2 := Lib.hid K2
  clear T p0
  go_wp2_with fail
  go_ret
  exact ⟨A2, c2, rfl, K2.out⟩
end Go.Proofs.Ytlpcofjmleghdaa

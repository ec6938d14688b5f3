import Derived.Test.YtoiokmfdmpifiaaDel
import Derived.Test.YtoiokmfdmpifiaaCl
import Derived.Test.YtoiokmfdmpifiaaProg
import Derived.Test.YtoiokmfdmpifiaaLs
import Derived.Outline
import Derived.StillTailTactics
import Derived.Deep.DeepCutAuto
import Derived.Deep.CutBlock
import Derived.Deep.LoopGhost
import Derived.Deep.QuietTactic
import Derived.BigQuiet
import Derived.Deep.RegionHeld3
import Derived.Deep.RegionLaw
set_option linter.unusedVariables false
set_option linter.unusedSimpArgs false
namespace Go.Proofs.Ytoiokmfdmpifiaa
open Go.RowKit
theorem bound67 (n : Int) (w : World) : Calls Try.prog 67 #[.int .i64 n] w fun e w' => e = .returned (.int .i64 (min (max n 1) 65536)) ∧ w = w' := by
  rcases (show n < 1 ∨ (1 ≤ n ∧ n ≤ 65536) ∨ 65536 < n by omega) with h | ⟨h1, h2⟩ | h
  all_goals
    go_enter Try.func67, Try.ntmps67
    go_wp2_with fail
  all_goals go_ret
  all_goals exact ⟨congrArg (fun x => Ending.returned (.int .i64 x)) (by omega), rfl⟩
/-- A ring at block p, of room m. -/
def RingI (p : Nat) (m : Int) (xs : List (Int)) : HP := Ex fun v => Star (Blk p (.cells #[v, .int .i64 m] 103 (0, 0))) (Ls (Enc.num .i64) 3 v xs)
theorem RingI.open_ {p : Nat} {m : Int} {xs : List (Int)} {w w0 : World} {R : List HP} (H : Hs w0 w (RingI p m xs :: R)) :
    ∃ A c, Hs w0 w (Blk p (.cells #[.slice A xs.length c, .int .i64 m] 103 (0, 0)) :: Ls (Enc.num .i64) 3 (.slice A xs.length c) xs :: R) := by
  obtain ⟨v, H⟩ := H.ex
  have H := H.part
  obtain ⟨A, c, rfl⟩ := H.at1.ls_form
  exact ⟨A, c, H⟩
theorem RingI.mk_ {p : Nat} {m : Int} {v : Value} {xs : List (Int)} {w w0 : World} {R : List HP} (H : Hs w0 w (Blk p (.cells #[v, .int .i64 m] 103 (0, 0)) :: Ls (Enc.num .i64) 3 v xs :: R)) : Hs w0 w (RingI p m xs :: R) :=
  H.join.mono fun h hh => ⟨_, hh⟩
theorem ring_new52 (n : Int) (w w0 : World) (R : List HP) (H : Hs w0 w R) : Calls Try.prog 52 #[.int .i64 n] w fun e w' => ∃ p, e = .returned (.pointer (some ⟨p, 0, none⟩)) ∧ Hs w0 w' (RingI p (min (max n 1) 65536) [] :: R) := by
  generalize hb : min (max n 1) 65536 = b
  replace hb := Lib.hid hb
  go_enter Try.func52, Try.ntmps52
  go_wp2_with fail
  refine (bound67 n _).mono ?_
  rw [hb.out]
  rintro e w1 ⟨rfl, rfl⟩
  go_wp2_with fail
  go_ret
  exact ⟨_, rfl, RingI.mk_ ((H.ls_nil (Enc.num .i64) 3).alloc _)⟩
theorem ring_put59 (p : Nat) (m : Int) (x : Int) (xs : List (Int)) (w w0 : World) (R : List HP) (H : Hs w0 w (RingI p m xs :: R)) (hb : xs.length ≤ 1000000) :
    Calls Try.prog 59 #[.pointer (some ⟨p, 0, none⟩), Value.int .i64 x] w fun e w' => e = .returned (.bool (decide ((xs.length : Int) < m))) ∧ Hs w0 w' (RingI p m (if (xs.length : Int) < m then xs ++ [x] else xs) :: R) := by
  obtain ⟨A0, c0, H⟩ := RingI.open_ H
  have hc : w.cell? ⟨p, 0, none⟩ = some (.slice A0 xs.length c0) := H.cellOf 0 rfl
  have hc1 : w.cell? ⟨p, 1, none⟩ = some (.int .i64 m) := H.cellOf 1 rfl
  by_cases hm : (xs.length : Int) < m
  · go_enter Try.func59, Try.ntmps59
    go_wp2_with fail
    go_quiet (fail)
    go_wp2_with (at_builtin; refine wpList_append1L (E := Enc.num .i64) rfl (.tmp 19) (.tmp 21) 48 rfl 3 _ 1 8 Try.underlying48 info54 rfl (by decide) (by decide) rfl rfl rfl (H.drewN _).at1 x (by omega) ?_)
    intro A cap w1 H1
    replace H1 := H1.at1
    have hd0 := H1.cellOf 0 rfl
    have hd1 := H1.frozenOf 0
    clear hc hc1
    go_wp2_with fail
    go_ret
    exact ⟨rfl, RingI.mk_ (H1.setCell (i := 0) _)⟩
  · replace hm : m ≤ (xs.length : Int) := by omega
    go_enter Try.func59, Try.ntmps59
    go_wp2_with fail
    go_quiet (fail)
    go_wp2_with fail
    go_ret
    exact ⟨rfl, RingI.mk_ (H.drewN _)⟩
theorem ring_peek66 (p : Nat) (m i : Int) (x : Int) (xs : List (Int)) (w w0 : World) (R : List HP) (H : Hs w0 w (RingI p m xs :: R)) (h0 : 0 ≤ i) (hx : xs[i.toNat]? = some x) :
    Calls Try.prog 66 #[.pointer (some ⟨p, 0, none⟩), .int .i64 i] w fun e w' => e = .returned (.tuple #[Value.int .i64 x, .bool true]) ∧ w = w' := by
  obtain ⟨i, rfl⟩ := Int.eq_ofNat_of_zero_le h0
  rw [Int.toNat_natCast] at hx
  obtain ⟨A0, c0, H⟩ := RingI.open_ H
  have hlt := (List.getElem?_eq_some_iff.1 hx).1
  have hc : w.cell? ⟨p, 0, none⟩ = some (.slice A0 xs.length c0) := H.cellOf 0 rfl
  have hrd := H.at1.ls_rd
  obtain ⟨g, off, rfl⟩ := hrd.some_ (by omega)
  have hcx : w.cell? ⟨g, off + i, none⟩ = some (Value.int .i64 x) := by have := hrd.cell hx 0 rfl; simpa [Enc.num, Enc.str, Enc.flag] using this
  have hi1 : (i : Int) < (xs.length : Int) := by omega
  clear hrd hx
  go_enter Try.func66, Try.ntmps66
  go_wp2_with fail
  go_ret2
  exact ⟨rfl, rfl⟩
theorem ring_peek_no66 (p : Nat) (m i : Int) (xs : List (Int)) (w w0 : World) (R : List HP) (H : Hs w0 w (RingI p m xs :: R)) (h0 : i < 0 ∨ (xs.length : Int) ≤ i) :
    Calls Try.prog 66 #[.pointer (some ⟨p, 0, none⟩), .int .i64 i] w fun e w' => e = .returned (.tuple #[Value.int .i64 (0), .bool false]) ∧ w = w' := by
  obtain ⟨A0, c0, H⟩ := RingI.open_ H
  have hc : w.cell? ⟨p, 0, none⟩ = some (.slice A0 xs.length c0) := H.cellOf 0 rfl
  rcases Int.lt_or_le i 0 with h | h
  · clear h0
    go_enter Try.func66, Try.ntmps66
    go_wp2_with fail
    go_ret2
    exact ⟨rfl, rfl⟩
  · replace h0 : (xs.length : Int) ≤ i := by omega
    go_enter Try.func66, Try.ntmps66
    go_wp2_with fail
    go_ret2
    exact ⟨rfl, rfl⟩
theorem ring_take56 (p : Nat) (m : Int) (xs : List (Int)) (w w0 : World) (R : List HP) (H : Hs w0 w (RingI p m xs :: R)) (hb : xs.length ≤ 1000001) :
    Calls Try.prog 56 #[.pointer (some ⟨p, 0, none⟩)] w fun e w' => e = .returned (.tuple #[Value.int .i64 (xs.headD (0)), .bool (!xs.isEmpty)]) ∧ Hs w0 w' (RingI p m xs.tail :: R) := by
  cases xs with
  | nil =>
    go_enter Try.func56, Try.ntmps56
    go_wp2_with fail
    refine (ring_peek_no66 p m 0 [] _ _ _ H (by simp)).mono ?_
    rintro e w1 ⟨rfl, rfl⟩
    go_wp2_with fail
    go_ret2
    exact ⟨rfl, H⟩
  | cons x xs =>
    have H0 := Lib.hid H
    obtain ⟨A0, c0, H⟩ := RingI.open_ H
    have hc : w.cell? ⟨p, 0, none⟩ = some (.slice A0 (xs.length + 1) c0) := H.cellOf 0 rfl
    simp only [List.length_cons] at hb
    go_enter Try.func56, Try.ntmps56
    go_wp2_with fail
    refine (ring_peek66 p m 0 x (x :: xs) _ _ _ H0.out (by omega) rfl).mono ?_
    rintro e w1 ⟨rfl, rfl⟩
    go_wp2_with fail
    refine (delete54 _ (x :: xs) 0 1 _ _ _ H.at1 (by omega) (by omega) (by rw [List.length_cons]; omega) (by rw [List.length_cons]; omega)).mono ?_
    rintro e w1 ⟨A, c, mm, hm, rfl, H1⟩
    replace H1 := H1.at1
    obtain rfl : mm = xs.length := by simp at hm; exact hm
    clear hm
    have hc1 := H1.cellOf 0 rfl
    have hf1 := H1.frozenOf 0
    clear hc
    go_wp2_with fail
    go_ret2
    exact ⟨rfl, RingI.mk_ (H1.setCell (i := 0) _)⟩
theorem ring_len64 (p : Nat) (m : Int) (xs : List (Int)) (w w0 : World) (R : List HP) (H : Hs w0 w (RingI p m xs :: R)) :
    Calls Try.prog 64 #[.pointer (some ⟨p, 0, none⟩)] w fun e w' => e = .returned (.int .i64 xs.length) ∧ w = w' := by
  obtain ⟨A, c, H⟩ := RingI.open_ H
  have hc : w.cell? ⟨p, 0, none⟩ = some (.slice A xs.length c) := H.cellOf 0 rfl
  go_enter Try.func64, Try.ntmps64
  go_wp2_with fail
  go_ret
  exact ⟨rfl, rfl⟩
theorem ring_clear57 (p : Nat) (m : Int) (xs : List (Int)) (w w0 : World) (R : List HP) (H : Hs w0 w (RingI p m xs :: R)) :
    Calls Try.prog 57 #[.pointer (some ⟨p, 0, none⟩)] w fun e w' => e = .returned (.tuple #[]) ∧ Hs w0 w' (RingI p m [] :: R) := by
  obtain ⟨A, c, H⟩ := RingI.open_ H
  have hc : w.cell? ⟨p, 0, none⟩ = some (.slice A xs.length c) := H.cellOf 0 rfl
  have hf := H.frozenOf 0
  go_enter Try.func57, Try.ntmps57
  go_wp2_with fail
  go_end0
  exact ⟨rfl, RingI.mk_ (v := .slice none 0 0) ((H.at1.drop.setCell (i := 0) (.slice none 0 0)).ls_nil (Enc.num .i64) 3).at1⟩
theorem ring_all61 (p : Nat) (m : Int) (xs : List (Int)) (w w0 : World) (R : List HP) (H : Hs w0 w (RingI p m xs :: R)) (hb : xs.length ≤ 1000001) :
    Calls Try.prog 61 #[.pointer (some ⟨p, 0, none⟩)] w fun e w' => ∃ A c, e = .returned (.slice A xs.length c) ∧ Hs w0 w' (Ls (Enc.num .i64) 3 (.slice A xs.length c) xs :: RingI p m xs :: R) := by
  obtain ⟨A, c, H⟩ := RingI.open_ H
  have hc : w.cell? ⟨p, 0, none⟩ = some (.slice A xs.length c) := H.cellOf 0 rfl
  go_enter Try.func61, Try.ntmps61
  go_wp2_with (go_at_call 75; refine (clone75 _ xs _ _ _ H H.at1.ls_rd (by omega)).mono ?_)
  rintro e w1 ⟨A', c', rfl, H1⟩
  go_wp2_with fail
  go_ret
  exact ⟨_, _, rfl, (RingI.mk_ H1.at2.at2).at1⟩
/-- A ring at block p, of room m. -/
def RingS (p : Nat) (m : Int) (xs : List (ByteArray)) : HP := Ex fun v => Star (Blk p (.cells #[v, .int .i64 m] 96 (0, 0))) (Ls (Enc.str) 9 v xs)
theorem RingS.open_ {p : Nat} {m : Int} {xs : List (ByteArray)} {w w0 : World} {R : List HP} (H : Hs w0 w (RingS p m xs :: R)) :
    ∃ A c, Hs w0 w (Blk p (.cells #[.slice A xs.length c, .int .i64 m] 96 (0, 0)) :: Ls (Enc.str) 9 (.slice A xs.length c) xs :: R) := by
  obtain ⟨v, H⟩ := H.ex
  have H := H.part
  obtain ⟨A, c, rfl⟩ := H.at1.ls_form
  exact ⟨A, c, H⟩
theorem RingS.mk_ {p : Nat} {m : Int} {v : Value} {xs : List (ByteArray)} {w w0 : World} {R : List HP} (H : Hs w0 w (Blk p (.cells #[v, .int .i64 m] 96 (0, 0)) :: Ls (Enc.str) 9 v xs :: R)) : Hs w0 w (RingS p m xs :: R) :=
  H.join.mono fun h hh => ⟨_, hh⟩
theorem ring_new43 (n : Int) (w w0 : World) (R : List HP) (H : Hs w0 w R) : Calls Try.prog 43 #[.int .i64 n] w fun e w' => ∃ p, e = .returned (.pointer (some ⟨p, 0, none⟩)) ∧ Hs w0 w' (RingS p (min (max n 1) 65536) [] :: R) := by
  generalize hb : min (max n 1) 65536 = b
  replace hb := Lib.hid hb
  go_enter Try.func43, Try.ntmps43
  go_wp2_with fail
  refine (bound67 n _).mono ?_
  rw [hb.out]
  rintro e w1 ⟨rfl, rfl⟩
  go_wp2_with fail
  go_ret
  exact ⟨_, rfl, RingS.mk_ ((H.ls_nil (Enc.str) 9).alloc _)⟩
theorem ring_put72 (p : Nat) (m : Int) (x : ByteArray) (xs : List (ByteArray)) (w w0 : World) (R : List HP) (H : Hs w0 w (RingS p m xs :: R)) (hb : xs.length ≤ 1000000) :
    Calls Try.prog 72 #[.pointer (some ⟨p, 0, none⟩), Value.string x] w fun e w' => e = .returned (.bool (decide ((xs.length : Int) < m))) ∧ Hs w0 w' (RingS p m (if (xs.length : Int) < m then xs ++ [x] else xs) :: R) := by
  obtain ⟨A0, c0, H⟩ := RingS.open_ H
  have hc : w.cell? ⟨p, 0, none⟩ = some (.slice A0 xs.length c0) := H.cellOf 0 rfl
  have hc1 : w.cell? ⟨p, 1, none⟩ = some (.int .i64 m) := H.cellOf 1 rfl
  by_cases hm : (xs.length : Int) < m
  · go_enter Try.func72, Try.ntmps72
    go_wp2_with fail
    go_quiet (fail)
    go_wp2_with (at_builtin; refine wpList_append1L (E := Enc.str) rfl (.tmp 19) (.tmp 21) 67 rfl 9 _ 1 16 Try.underlying67 info47 rfl (by decide) (by decide) rfl rfl rfl (H.drewN _).at1 x (by omega) ?_)
    intro A cap w1 H1
    replace H1 := H1.at1
    have hd0 := H1.cellOf 0 rfl
    have hd1 := H1.frozenOf 0
    clear hc hc1
    go_wp2_with fail
    go_ret
    exact ⟨rfl, RingS.mk_ (H1.setCell (i := 0) _)⟩
  · replace hm : m ≤ (xs.length : Int) := by omega
    go_enter Try.func72, Try.ntmps72
    go_wp2_with fail
    go_quiet (fail)
    go_wp2_with fail
    go_ret
    exact ⟨rfl, RingS.mk_ (H.drewN _)⟩
theorem ring_peek73 (p : Nat) (m i : Int) (x : ByteArray) (xs : List (ByteArray)) (w w0 : World) (R : List HP) (H : Hs w0 w (RingS p m xs :: R)) (h0 : 0 ≤ i) (hx : xs[i.toNat]? = some x) :
    Calls Try.prog 73 #[.pointer (some ⟨p, 0, none⟩), .int .i64 i] w fun e w' => e = .returned (.tuple #[Value.string x, .bool true]) ∧ w = w' := by
  obtain ⟨i, rfl⟩ := Int.eq_ofNat_of_zero_le h0
  rw [Int.toNat_natCast] at hx
  obtain ⟨A0, c0, H⟩ := RingS.open_ H
  have hlt := (List.getElem?_eq_some_iff.1 hx).1
  have hc : w.cell? ⟨p, 0, none⟩ = some (.slice A0 xs.length c0) := H.cellOf 0 rfl
  have hrd := H.at1.ls_rd
  obtain ⟨g, off, rfl⟩ := hrd.some_ (by omega)
  have hcx : w.cell? ⟨g, off + i, none⟩ = some (Value.string x) := by have := hrd.cell hx 0 rfl; simpa [Enc.num, Enc.str, Enc.flag] using this
  have hi1 : (i : Int) < (xs.length : Int) := by omega
  clear hrd hx
  go_enter Try.func73, Try.ntmps73
  go_wp2_with fail
  go_ret2
  exact ⟨rfl, rfl⟩
theorem ring_peek_no73 (p : Nat) (m i : Int) (xs : List (ByteArray)) (w w0 : World) (R : List HP) (H : Hs w0 w (RingS p m xs :: R)) (h0 : i < 0 ∨ (xs.length : Int) ≤ i) :
    Calls Try.prog 73 #[.pointer (some ⟨p, 0, none⟩), .int .i64 i] w fun e w' => e = .returned (.tuple #[Value.string (ByteArray.empty), .bool false]) ∧ w = w' := by
  obtain ⟨A0, c0, H⟩ := RingS.open_ H
  have hc : w.cell? ⟨p, 0, none⟩ = some (.slice A0 xs.length c0) := H.cellOf 0 rfl
  rcases Int.lt_or_le i 0 with h | h
  · clear h0
    go_enter Try.func73, Try.ntmps73
    go_wp2_with fail
    go_ret2
    exact ⟨rfl, rfl⟩
  · replace h0 : (xs.length : Int) ≤ i := by omega
    go_enter Try.func73, Try.ntmps73
    go_wp2_with fail
    go_ret2
    exact ⟨rfl, rfl⟩
theorem ring_take50 (p : Nat) (m : Int) (xs : List (ByteArray)) (w w0 : World) (R : List HP) (H : Hs w0 w (RingS p m xs :: R)) (hb : xs.length ≤ 1000001) :
    Calls Try.prog 50 #[.pointer (some ⟨p, 0, none⟩)] w fun e w' => e = .returned (.tuple #[Value.string (xs.headD (ByteArray.empty)), .bool (!xs.isEmpty)]) ∧ Hs w0 w' (RingS p m xs.tail :: R) := by
  cases xs with
  | nil =>
    go_enter Try.func50, Try.ntmps50
    go_wp2_with fail
    refine (ring_peek_no73 p m 0 [] _ _ _ H (by simp)).mono ?_
    rintro e w1 ⟨rfl, rfl⟩
    go_wp2_with fail
    go_ret2
    exact ⟨rfl, H⟩
  | cons x xs =>
    have H0 := Lib.hid H
    obtain ⟨A0, c0, H⟩ := RingS.open_ H
    have hc : w.cell? ⟨p, 0, none⟩ = some (.slice A0 (xs.length + 1) c0) := H.cellOf 0 rfl
    simp only [List.length_cons] at hb
    go_enter Try.func50, Try.ntmps50
    go_wp2_with fail
    refine (ring_peek73 p m 0 x (x :: xs) _ _ _ H0.out (by omega) rfl).mono ?_
    rintro e w1 ⟨rfl, rfl⟩
    go_wp2_with fail
    refine (delete47 _ (x :: xs) 0 1 _ _ _ H.at1 (by omega) (by omega) (by rw [List.length_cons]; omega) (by rw [List.length_cons]; omega)).mono ?_
    rintro e w1 ⟨A, c, mm, hm, rfl, H1⟩
    replace H1 := H1.at1
    obtain rfl : mm = xs.length := by simp at hm; exact hm
    clear hm
    have hc1 := H1.cellOf 0 rfl
    have hf1 := H1.frozenOf 0
    clear hc
    go_wp2_with fail
    go_ret2
    exact ⟨rfl, RingS.mk_ (H1.setCell (i := 0) _)⟩
theorem ring_len78 (p : Nat) (m : Int) (xs : List (ByteArray)) (w w0 : World) (R : List HP) (H : Hs w0 w (RingS p m xs :: R)) :
    Calls Try.prog 78 #[.pointer (some ⟨p, 0, none⟩)] w fun e w' => e = .returned (.int .i64 xs.length) ∧ w = w' := by
  obtain ⟨A, c, H⟩ := RingS.open_ H
  have hc : w.cell? ⟨p, 0, none⟩ = some (.slice A xs.length c) := H.cellOf 0 rfl
  go_enter Try.func78, Try.ntmps78
  go_wp2_with fail
  go_ret
  exact ⟨rfl, rfl⟩
end Go.Proofs.Ytoiokmfdmpifiaa

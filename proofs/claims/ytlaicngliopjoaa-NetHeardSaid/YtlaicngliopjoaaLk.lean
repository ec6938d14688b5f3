import Derived.Test.YtlaicngliopjoaaDel
import Derived.Test.YtlaicngliopjoaaCl
import Derived.Test.YtlaicngliopjoaaProg
import Derived.Test.YtlaicngliopjoaaLs
import Derived.Outline
import Derived.StillTailTactics
import Derived.Deep.DeepCutAuto
import Derived.Deep.CutBlock
import Derived.Deep.LoopGhost
import Derived.Deep.QuietTactic
import Derived.BigQuiet
import Derived.Deep.RegionHeld3
import Derived.Deep.RegionLaw
set_option linter.unusedVariables false
set_option linter.unusedSimpArgs false
namespace Go.Proofs.Ytlaicngliopjoaa
open Go.RowKit
/-- A link at block p. -/
def Link (p : Nat) (ep : Int) (xs : List (Int)) : HP := Ex fun v => Star (Blk p (.cells #[.int .u64 ep, v] 67 (0, 0))) (Ls (Enc.num .i64) 3 v xs)
theorem Link.open_ {p : Nat} {ep : Int} {xs : List (Int)} {w w0 : World} {R : List HP} (H : Hs w0 w (Link p ep xs :: R)) :
    ∃ A c, Hs w0 w (Blk p (.cells #[.int .u64 ep, .slice A xs.length c] 67 (0, 0)) :: Ls (Enc.num .i64) 3 (.slice A xs.length c) xs :: R) := by
  obtain ⟨v, H⟩ := H.ex
  have H := H.part
  obtain ⟨A, c, rfl⟩ := H.at1.ls_form
  exact ⟨A, c, H⟩
theorem Link.mk_ {p : Nat} {ep : Int} {v : Value} {xs : List (Int)} {w w0 : World} {R : List HP} (H : Hs w0 w (Blk p (.cells #[.int .u64 ep, v] 67 (0, 0)) :: Ls (Enc.num .i64) 3 v xs :: R)) : Hs w0 w (Link p ep xs :: R) :=
  H.join.mono fun h hh => ⟨_, hh⟩
theorem link_new12 (ep : Int) (w w0 : World) (R : List HP) (H : Hs w0 w R) : Calls Try.prog 12 #[.int .u64 ep] w fun e w' => ∃ p, e = .returned (.pointer (some ⟨p, 0, none⟩)) ∧ Hs w0 w' (Link p ep [] :: R) := by
  go_enter Try.func12, Try.ntmps12
  go_wp2
  go_ret
  exact ⟨_, rfl, Link.mk_ ((H.ls_nil (Enc.num .i64) 3).alloc _)⟩
theorem link_epoch16 (p : Nat) (ep : Int) (xs : List (Int)) (w w0 : World) (R : List HP) (H : Hs w0 w (Link p ep xs :: R)) :
    Calls Try.prog 16 #[.pointer (some ⟨p, 0, none⟩)] w fun e w' => e = .returned (.int .u64 ep) ∧ w = w' := by
  obtain ⟨A, c, H⟩ := Link.open_ H
  have hc := H.cellOf 0 rfl
  go_enter Try.func16, Try.ntmps16
  go_wp2_with fail
  go_ret
  exact ⟨rfl, rfl⟩
theorem link_send13 (p : Nat) (ep n : Int) (x : Int) (xs : List (Int)) (w w0 : World) (R : List HP) (H : Hs w0 w (Link p ep xs :: R)) (hb : xs.length ≤ 1000000) :
    Calls Try.prog 13 #[.pointer (some ⟨p, 0, none⟩), .int .u64 n, Value.int .i64 x] w fun e w' => e = .returned (.int .i64 (if n = ep then 0 else 51)) ∧ Hs w0 w' (Link p ep (if n = ep then xs ++ [x] else xs) :: R) := by
  obtain ⟨A0, c0, H⟩ := Link.open_ H
  have hc0 := H.cellOf 0 rfl
  have hc := H.cellOf 1 rfl
  by_cases hn : n = ep
  · subst hn
    simp only [if_true]
    go_enter Try.func13, Try.ntmps13
    go_wp2_with (at_builtin; refine wpList_append1L (E := Enc.num .i64) rfl (.tmp 17) (.tmp 19) 26 rfl 3 _ 1 8 Try.underlying26 info30 rfl (by decide) (by decide) rfl rfl rfl H.at1 x (by omega) ?_)
    intro A cap w1 H1
    have H1 := H1.at1
    have hc1 := H1.cellOf 1 rfl
    have hf1 := H1.frozenOf 1
    clear hc hc0
    go_wp2_with fail
    go_ret
    exact ⟨rfl, Link.mk_ (H1.setCell (i := 1) _)⟩
  · simp only [if_neg hn]
    have hne : (n != ep) = true := by rw [bne_iff_ne]; exact hn
    go_enter Try.func13, Try.ntmps13
    go_wp2_with fail
    go_ret
    exact ⟨rfl, Link.mk_ H⟩
theorem link_len17 (p : Nat) (ep : Int) (xs : List (Int)) (w w0 : World) (R : List HP) (H : Hs w0 w (Link p ep xs :: R)) :
    Calls Try.prog 17 #[.pointer (some ⟨p, 0, none⟩)] w fun e w' => e = .returned (.int .i64 xs.length) ∧ w = w' := by
  obtain ⟨A, c, H⟩ := Link.open_ H
  have hc := H.cellOf 1 rfl
  go_enter Try.func17, Try.ntmps17
  go_wp2_with fail
  go_ret
  exact ⟨rfl, rfl⟩
theorem link_kill15 (p : Nat) (ep n : Int) (xs : List (Int)) (w w0 : World) (R : List HP) (H : Hs w0 w (Link p ep xs :: R)) :
    Calls Try.prog 15 #[.pointer (some ⟨p, 0, none⟩), .int .u64 n] w fun e w' => e = .returned (.tuple #[]) ∧ Hs w0 w' (Link p (max ep n) [] :: R) := by
  obtain ⟨A, c, H⟩ := Link.open_ H
  have hc0 := H.cellOf 0 rfl
  have hc := H.cellOf 1 rfl
  have hf := H.frozenOf 1
  have hf0 := H.frozenOf 0
  go_enter Try.func15, Try.ntmps15
  go_wp2_with fail
  all_goals go_end0
  all_goals refine ⟨rfl, Link.mk_ (v := .slice none 0 0) ?_⟩
  · rw [show max ep n = n by omega]
    exact (((H.at1.drop.setCell (i := 1) (.slice none 0 0)).setCell (i := 0) (.int .u64 n)).ls_nil (Enc.num .i64) 3).at1
  · rw [show max ep n = ep by omega]
    exact (((H.at1.drop.setCell (i := 1) (.slice none 0 0)).setCell (i := 0) (.int .u64 ep)).ls_nil (Enc.num .i64) 3).at1
theorem link_deliver14 (p : Nat) (ep : Int) (xs : List (Int)) (w w0 : World) (R : List HP) (H : Hs w0 w (Link p ep xs :: R)) (hb : xs.length ≤ 1000001) :
    Calls Try.prog 14 #[.pointer (some ⟨p, 0, none⟩)] w fun e w' => e = .returned (.tuple #[Value.int .i64 (xs.headD (0)), .int .i64 (if xs = [] then 52 else 0)]) ∧ Hs w0 w' (Link p ep xs.tail :: R) := by
  obtain ⟨A0, c0, H⟩ := Link.open_ H
  have hc := H.cellOf 1 rfl
  cases xs with
  | nil =>
    simp only [List.length_nil] at hc
    go_enter Try.func14, Try.ntmps14
    go_wp2_with fail
    go_ret2
    exact ⟨rfl, Link.mk_ H⟩
  | cons x xs =>
    have hrd := H.at1.ls_rd
    obtain ⟨g, off, rfl⟩ := hrd.some_ (by simp)
    have hx : w.cell? ⟨g, off, none⟩ = some (Value.int .i64 x) := hrd.cell (i := 0) rfl 0 rfl
    simp only [List.length_cons] at hc hb ⊢
    clear hrd
    go_enter Try.func14, Try.ntmps14
    go_wp2_with (go_at_call 30; refine (delete30 _ (x :: xs) 0 1 _ _ _ H.at1 (by omega) (by omega) (by rw [List.length_cons]; omega) (by rw [List.length_cons]; omega)).mono ?_)
    rintro e w1 ⟨A, c, m, hm, rfl, H1⟩
    have H1 := H1.at1
    obtain rfl : m = xs.length := by simp at hm; exact hm
    clear hm
    have hc1 := H1.cellOf 1 rfl
    have hf1 := H1.frozenOf 1
    clear hc hx
    go_wp2_with fail
    go_ret2
    exact ⟨rfl, Link.mk_ (H1.setCell (i := 1) _)⟩
theorem link_all19 (p : Nat) (ep : Int) (xs : List (Int)) (w w0 : World) (R : List HP) (H : Hs w0 w (Link p ep xs :: R)) (hb : xs.length ≤ 1000001) :
    Calls Try.prog 19 #[.pointer (some ⟨p, 0, none⟩)] w fun e w' => ∃ A c, e = .returned (.slice A xs.length c) ∧ Hs w0 w' (Ls (Enc.num .i64) 3 (.slice A xs.length c) xs :: Link p ep xs :: R) := by
  obtain ⟨A, c, H⟩ := Link.open_ H
  have hc := H.cellOf 1 rfl
  go_enter Try.func19, Try.ntmps19
  go_wp2_with (go_at_call 31; refine (clone31 _ xs _ _ _ H H.at1.ls_rd (by omega)).mono ?_)
  rintro e w1 ⟨A', c', rfl, H1⟩
  go_wp2_with fail
  go_ret
  exact ⟨_, _, rfl, (Link.mk_ H1.at2.at2).at1⟩
/-- A link at block p. -/
def LinkS (p : Nat) (ep : Int) (xs : List (ByteArray)) : HP := Ex fun v => Star (Blk p (.cells #[.int .u64 ep, v] 72 (0, 0))) (Ls (Enc.str) 9 v xs)
theorem LinkS.open_ {p : Nat} {ep : Int} {xs : List (ByteArray)} {w w0 : World} {R : List HP} (H : Hs w0 w (LinkS p ep xs :: R)) :
    ∃ A c, Hs w0 w (Blk p (.cells #[.int .u64 ep, .slice A xs.length c] 72 (0, 0)) :: Ls (Enc.str) 9 (.slice A xs.length c) xs :: R) := by
  obtain ⟨v, H⟩ := H.ex
  have H := H.part
  obtain ⟨A, c, rfl⟩ := H.at1.ls_form
  exact ⟨A, c, H⟩
theorem LinkS.mk_ {p : Nat} {ep : Int} {v : Value} {xs : List (ByteArray)} {w w0 : World} {R : List HP} (H : Hs w0 w (Blk p (.cells #[.int .u64 ep, v] 72 (0, 0)) :: Ls (Enc.str) 9 v xs :: R)) : Hs w0 w (LinkS p ep xs :: R) :=
  H.join.mono fun h hh => ⟨_, hh⟩
theorem link_new20 (ep : Int) (w w0 : World) (R : List HP) (H : Hs w0 w R) : Calls Try.prog 20 #[.int .u64 ep] w fun e w' => ∃ p, e = .returned (.pointer (some ⟨p, 0, none⟩)) ∧ Hs w0 w' (LinkS p ep [] :: R) := by
  go_enter Try.func20, Try.ntmps20
  go_wp2
  go_ret
  exact ⟨_, rfl, LinkS.mk_ ((H.ls_nil (Enc.str) 9).alloc _)⟩
theorem link_epoch28 (p : Nat) (ep : Int) (xs : List (ByteArray)) (w w0 : World) (R : List HP) (H : Hs w0 w (LinkS p ep xs :: R)) :
    Calls Try.prog 28 #[.pointer (some ⟨p, 0, none⟩)] w fun e w' => e = .returned (.int .u64 ep) ∧ w = w' := by
  obtain ⟨A, c, H⟩ := LinkS.open_ H
  have hc := H.cellOf 0 rfl
  go_enter Try.func28, Try.ntmps28
  go_wp2_with fail
  go_ret
  exact ⟨rfl, rfl⟩
theorem link_send22 (p : Nat) (ep n : Int) (x : ByteArray) (xs : List (ByteArray)) (w w0 : World) (R : List HP) (H : Hs w0 w (LinkS p ep xs :: R)) (hb : xs.length ≤ 1000000) :
    Calls Try.prog 22 #[.pointer (some ⟨p, 0, none⟩), .int .u64 n, Value.string x] w fun e w' => e = .returned (.int .i64 (if n = ep then 0 else 51)) ∧ Hs w0 w' (LinkS p ep (if n = ep then xs ++ [x] else xs) :: R) := by
  obtain ⟨A0, c0, H⟩ := LinkS.open_ H
  have hc0 := H.cellOf 0 rfl
  have hc := H.cellOf 1 rfl
  by_cases hn : n = ep
  · subst hn
    simp only [if_true]
    go_enter Try.func22, Try.ntmps22
    go_wp2_with (at_builtin; refine wpList_append1L (E := Enc.str) rfl (.tmp 17) (.tmp 19) 70 rfl 9 _ 1 16 Try.underlying70 info32 rfl (by decide) (by decide) rfl rfl rfl H.at1 x (by omega) ?_)
    intro A cap w1 H1
    have H1 := H1.at1
    have hc1 := H1.cellOf 1 rfl
    have hf1 := H1.frozenOf 1
    clear hc hc0
    go_wp2_with fail
    go_ret
    exact ⟨rfl, LinkS.mk_ (H1.setCell (i := 1) _)⟩
  · simp only [if_neg hn]
    have hne : (n != ep) = true := by rw [bne_iff_ne]; exact hn
    go_enter Try.func22, Try.ntmps22
    go_wp2_with fail
    go_ret
    exact ⟨rfl, LinkS.mk_ H⟩
theorem link_kill24 (p : Nat) (ep n : Int) (xs : List (ByteArray)) (w w0 : World) (R : List HP) (H : Hs w0 w (LinkS p ep xs :: R)) :
    Calls Try.prog 24 #[.pointer (some ⟨p, 0, none⟩), .int .u64 n] w fun e w' => e = .returned (.tuple #[]) ∧ Hs w0 w' (LinkS p (max ep n) [] :: R) := by
  obtain ⟨A, c, H⟩ := LinkS.open_ H
  have hc0 := H.cellOf 0 rfl
  have hc := H.cellOf 1 rfl
  have hf := H.frozenOf 1
  have hf0 := H.frozenOf 0
  go_enter Try.func24, Try.ntmps24
  go_wp2_with fail
  all_goals go_end0
  all_goals refine ⟨rfl, LinkS.mk_ (v := .slice none 0 0) ?_⟩
  · rw [show max ep n = n by omega]
    exact (((H.at1.drop.setCell (i := 1) (.slice none 0 0)).setCell (i := 0) (.int .u64 n)).ls_nil (Enc.str) 9).at1
  · rw [show max ep n = ep by omega]
    exact (((H.at1.drop.setCell (i := 1) (.slice none 0 0)).setCell (i := 0) (.int .u64 ep)).ls_nil (Enc.str) 9).at1
theorem link_deliver23 (p : Nat) (ep : Int) (xs : List (ByteArray)) (w w0 : World) (R : List HP) (H : Hs w0 w (LinkS p ep xs :: R)) (hb : xs.length ≤ 1000001) :
    Calls Try.prog 23 #[.pointer (some ⟨p, 0, none⟩)] w fun e w' => e = .returned (.tuple #[Value.string (xs.headD (ByteArray.empty)), .int .i64 (if xs = [] then 52 else 0)]) ∧ Hs w0 w' (LinkS p ep xs.tail :: R) := by
  obtain ⟨A0, c0, H⟩ := LinkS.open_ H
  have hc := H.cellOf 1 rfl
  cases xs with
  | nil =>
    simp only [List.length_nil] at hc
    go_enter Try.func23, Try.ntmps23
    go_wp2_with fail
    go_ret2
    exact ⟨rfl, LinkS.mk_ H⟩
  | cons x xs =>
    have hrd := H.at1.ls_rd
    obtain ⟨g, off, rfl⟩ := hrd.some_ (by simp)
    have hx : w.cell? ⟨g, off, none⟩ = some (Value.string x) := hrd.cell (i := 0) rfl 0 rfl
    simp only [List.length_cons] at hc hb ⊢
    clear hrd
    go_enter Try.func23, Try.ntmps23
    go_wp2_with (go_at_call 32; refine (delete32 _ (x :: xs) 0 1 _ _ _ H.at1 (by omega) (by omega) (by rw [List.length_cons]; omega) (by rw [List.length_cons]; omega)).mono ?_)
    rintro e w1 ⟨A, c, m, hm, rfl, H1⟩
    have H1 := H1.at1
    obtain rfl : m = xs.length := by simp at hm; exact hm
    clear hm
    have hc1 := H1.cellOf 1 rfl
    have hf1 := H1.frozenOf 1
    clear hc hx
    go_wp2_with fail
    go_ret2
    exact ⟨rfl, LinkS.mk_ (H1.setCell (i := 1) _)⟩
end Go.Proofs.Ytlaicngliopjoaa

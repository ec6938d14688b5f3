import Derived.Test.YtoiokmfdmpifiaaSt
import Derived.Test.YtoiokmfdmpifiaaDel
import Derived.Test.YtoiokmfdmpifiaaCl
import Derived.Test.YtoiokmfdmpifiaaProg
import Derived.Test.YtoiokmfdmpifiaaLs
import Derived.Outline
import Derived.StillTailTactics
import Derived.Deep.DeepCutAuto
import Derived.Deep.CutBlock
import Derived.Deep.LoopGhost
import Derived.Deep.QuietTactic
import Derived.BigQuiet
import Derived.Deep.RegionHeld3
import Derived.Deep.RegionLaw
set_option linter.unusedVariables false
set_option linter.unusedSimpArgs false
namespace Go.Proofs.Ytoiokmfdmpifiaa
open Go.RowKit
/-- A link at block p. -/
def LinkI (p : Nat) (ep : Int) (xs : List (Int × Int × Int)) : HP := Ex fun v => Star (Blk p (.cells #[.int .u64 ep, v] 101 (0, 0))) (Ls ((Enc.num .u64).pair ((Enc.num .u64).pair (Enc.num .i64))) 78 v xs)
theorem LinkI.open_ {p : Nat} {ep : Int} {xs : List (Int × Int × Int)} {w w0 : World} {R : List HP} (H : Hs w0 w (LinkI p ep xs :: R)) :
    ∃ A c, Hs w0 w (Blk p (.cells #[.int .u64 ep, .slice A xs.length c] 101 (0, 0)) :: Ls ((Enc.num .u64).pair ((Enc.num .u64).pair (Enc.num .i64))) 78 (.slice A xs.length c) xs :: R) := by
  obtain ⟨v, H⟩ := H.ex
  have H := H.part
  obtain ⟨A, c, rfl⟩ := H.at1.ls_form
  exact ⟨A, c, H⟩
theorem LinkI.mk_ {p : Nat} {ep : Int} {v : Value} {xs : List (Int × Int × Int)} {w w0 : World} {R : List HP} (H : Hs w0 w (Blk p (.cells #[.int .u64 ep, v] 101 (0, 0)) :: Ls ((Enc.num .u64).pair ((Enc.num .u64).pair (Enc.num .i64))) 78 v xs :: R)) : Hs w0 w (LinkI p ep xs :: R) :=
  H.join.mono fun h hh => ⟨_, hh⟩
theorem link_new51 (ep : Int) (w w0 : World) (R : List HP) (H : Hs w0 w R) : Calls Try.prog 51 #[.int .u64 ep] w fun e w' => ∃ p, e = .returned (.pointer (some ⟨p, 0, none⟩)) ∧ Hs w0 w' (LinkI p ep [] :: R) := by
  go_enter Try.func51, Try.ntmps51
  go_wp2
  go_ret
  exact ⟨_, rfl, LinkI.mk_ ((H.ls_nil ((Enc.num .u64).pair ((Enc.num .u64).pair (Enc.num .i64))) 78).alloc _)⟩
theorem link_epoch60 (p : Nat) (ep : Int) (xs : List (Int × Int × Int)) (w w0 : World) (R : List HP) (H : Hs w0 w (LinkI p ep xs :: R)) :
    Calls Try.prog 60 #[.pointer (some ⟨p, 0, none⟩)] w fun e w' => e = .returned (.int .u64 ep) ∧ w = w' := by
  obtain ⟨A, c, H⟩ := LinkI.open_ H
  have hc := H.cellOf 0 rfl
  go_enter Try.func60, Try.ntmps60
  go_wp2_with fail
  go_ret
  exact ⟨rfl, rfl⟩
set_option maxRecDepth 100000 in
theorem link_send53 (p : Nat) (ep n : Int) (x : Int × Int × Int) (xs : List (Int × Int × Int)) (w w0 : World) (R : List HP) (H : Hs w0 w (LinkI p ep xs :: R)) (hb : xs.length ≤ 1000000) :
    Calls Try.prog 53 #[.pointer (some ⟨p, 0, none⟩), .int .u64 n, .agg #[.int .u64 x.1, .int .u64 x.2.1, .int .i64 x.2.2]] w fun e w' => e = .returned (.int .i64 (if n = ep then 0 else 51)) ∧ Hs w0 w' (LinkI p ep (if n = ep then xs ++ [x] else xs) :: R) := by
  obtain ⟨A0, c0, H⟩ := LinkI.open_ H
  have hc0 := H.cellOf 0 rfl
  have hc := H.cellOf 1 rfl
  have hlt := H.lt
  by_cases hn : n = ep
  · subst hn
    simp only [if_true]
    go_enter Try.func53, Try.ntmps53
    go_wp2_with fail
    have H1 := H.alloc (.cells #[.int .u64 x.1, .int .u64 x.2.1, Value.int .i64 x.2.2] 78)
    clear H hc hc0 hlt
    generalize w.heap.size = bx at *
    generalize w.alloc _ = w1 at *
    have hx0 : w1.cell? ⟨bx, 0, none⟩ = some (.int .u64 x.1) := H1.cellOf 0 rfl
    have hx1 : w1.cell? ⟨bx, 1, none⟩ = some (.int .u64 x.2.1) := H1.cellOf 1 rfl
    have hx2 : w1.cell? ⟨bx, 2, none⟩ = some (Value.int .i64 x.2.2) := H1.cellOf 2 rfl
    have hc : w1.cell? ⟨p, 1, none⟩ = some (.slice A0 xs.length c0) := H1.at1.cellOf 1 rfl
    have H := H1
    have hl1 : p < w1.heap.size := H1.at1.lt
    have hl2 : bx < w1.heap.size := H1.lt
    go_region_law ((refine step_append_box (E := (Enc.num .u64).pair ((Enc.num .u64).pair (Enc.num .i64))) (v := .slice A0 xs.length c0) (by rfl) (.tmp 17) (.tmp 19) 88 (by rfl) 78 _ 3 24 Try.underlying88 info74 rfl (by decide) (by decide) rfl (by rfl) (by rfl) (by (first | (first | (first | with_reducible exact H | with_reducible exact H.at1 | with_reducible exact H.at2 | with_reducible exact H.at3 | with_reducible exact H.at4 | with_reducible exact H.at5 | with_reducible exact H.at6 | with_reducible exact H.at7) | (with_reducible apply Hs.alloc_under; first | with_reducible exact H | with_reducible exact H.at1 | with_reducible exact H.at2 | with_reducible exact H.at3 | with_reducible exact H.at4 | with_reducible exact H.at5 | with_reducible exact H.at6 | with_reducible exact H.at7) | (with_reducible apply Hs.alloc_under; with_reducible apply Hs.alloc_under; first | with_reducible exact H | with_reducible exact H.at1 | with_reducible exact H.at2 | with_reducible exact H.at3 | with_reducible exact H.at4 | with_reducible exact H.at5 | with_reducible exact H.at6 | with_reducible exact H.at7) | (with_reducible apply Hs.alloc_under; with_reducible apply Hs.alloc_under; with_reducible apply Hs.alloc_under; first | with_reducible exact H | with_reducible exact H.at1 | with_reducible exact H.at2 | with_reducible exact H.at3 | with_reducible exact H.at4 | with_reducible exact H.at5 | with_reducible exact H.at6 | with_reducible exact H.at7)) | (with_reducible apply Hs.drew; first | (first | with_reducible exact H | with_reducible exact H.at1 | with_reducible exact H.at2 | with_reducible exact H.at3 | with_reducible exact H.at4 | with_reducible exact H.at5 | with_reducible exact H.at6 | with_reducible exact H.at7) | (with_reducible apply Hs.alloc_under; first | with_reducible exact H | with_reducible exact H.at1 | with_reducible exact H.at2 | with_reducible exact H.at3 | with_reducible exact H.at4 | with_reducible exact H.at5 | with_reducible exact H.at6 | with_reducible exact H.at7) | (with_reducible apply Hs.alloc_under; with_reducible apply Hs.alloc_under; first | with_reducible exact H | with_reducible exact H.at1 | with_reducible exact H.at2 | with_reducible exact H.at3 | with_reducible exact H.at4 | with_reducible exact H.at5 | with_reducible exact H.at6 | with_reducible exact H.at7) | (with_reducible apply Hs.alloc_under; with_reducible apply Hs.alloc_under; with_reducible apply Hs.alloc_under; first | with_reducible exact H | with_reducible exact H.at1 | with_reducible exact H.at2 | with_reducible exact H.at3 | with_reducible exact H.at4 | with_reducible exact H.at5 | with_reducible exact H.at6 | with_reducible exact H.at7)))) x (by (first | exact RdL.boxAt _ (by simp) | exact (RdL.boxAt _ (by simp)).alloc _ | exact ((RdL.boxAt _ (by simp)).alloc _).alloc _ | (with_reducible apply RdL.drew; first | exact RdL.boxAt _ (by simp) | exact (RdL.boxAt _ (by simp)).alloc _ | exact ((RdL.boxAt _ (by simp)).alloc _).alloc _) | exact RdL.of_blk' H (by simp) rfl | exact RdL.of_blk' H.at1 (by simp) rfl | exact RdL.of_blk' H.at2 (by simp) rfl | exact RdL.of_blk' H.at3 (by simp) rfl | exact RdL.of_blk' H.at4 (by simp) rfl | exact RdL.of_blk' H.at5 (by simp) rfl | exact RdL.of_blk' H.at6 (by simp) rfl | exact RdL.of_blk' H.at7 (by simp) rfl | exact (RdL.of_blk' H (by simp) rfl).alloc _ | exact (RdL.of_blk' H.at1 (by simp) rfl).alloc _ | exact (RdL.of_blk' H.at2 (by simp) rfl).alloc _ | exact (RdL.of_blk' H.at3 (by simp) rfl).alloc _ | exact (RdL.of_blk' H.at4 (by simp) rfl).alloc _ | exact (RdL.of_blk' H.at5 (by simp) rfl).alloc _ | exact (RdL.of_blk' H.at6 (by simp) rfl).alloc _ | exact (RdL.of_blk' H.at7 (by simp) rfl).alloc _)) (by omega) ?_; intro A cap w3 H1; replace H1 := H1.at3; have hc1 := H1.cellOf 1 rfl; have hf1 := H1.frozenOf 1))
    all_goals
      go_wp2_with fail
      go_ret
      exact ⟨rfl, LinkI.mk_ (H1.setCell (i := 1) _).at3.drop.at2.drop⟩
  · simp only [if_neg hn]
    have hne : (n != ep) = true := by rw [bne_iff_ne]; exact hn
    go_enter Try.func53, Try.ntmps53
    go_wp2_with fail
    go_ret
    exact ⟨rfl, LinkI.mk_ (H.alloc_ _)⟩
theorem link_len63 (p : Nat) (ep : Int) (xs : List (Int × Int × Int)) (w w0 : World) (R : List HP) (H : Hs w0 w (LinkI p ep xs :: R)) :
    Calls Try.prog 63 #[.pointer (some ⟨p, 0, none⟩)] w fun e w' => e = .returned (.int .i64 xs.length) ∧ w = w' := by
  obtain ⟨A, c, H⟩ := LinkI.open_ H
  have hc := H.cellOf 1 rfl
  go_enter Try.func63, Try.ntmps63
  go_wp2_with fail
  go_ret
  exact ⟨rfl, rfl⟩
theorem link_deliver_nil55 (p : Nat) (ep : Int) (w w0 : World) (R : List HP) (H : Hs w0 w (LinkI p ep [] :: R)) :
    Calls Try.prog 55 #[.pointer (some ⟨p, 0, none⟩)] w fun e w' => e = .returned (.tuple #[.agg #[.int .u64 0, .int .u64 0, .int .i64 0], .int .i64 52]) ∧ Hs w0 w' (LinkI p ep [] :: R) := by
  obtain ⟨A0, c0, H⟩ := LinkI.open_ H
  have hc := H.cellOf 1 rfl
  have hlt := H.lt
  simp only [List.length_nil] at hc
  go_enter Try.func55, Try.ntmps55
  go_wp2_with fail
  refine bodyPost_ret (v := .tuple #[.agg #[.int .u64 0, .int .u64 0, .int .i64 0], .int .i64 52]) (by first | (simp [results, Try.results55, go_sem]; done) | (simp [results, Try.results55, go_sem]; rfl)) rfl ⟨rfl, LinkI.mk_ ((H.alloc_ _).alloc_ _)⟩
theorem link_deliver55 (p : Nat) (ep : Int) (x : Int × Int × Int) (xs : List (Int × Int × Int)) (w w0 : World) (R : List HP) (H : Hs w0 w (LinkI p ep (x :: xs) :: R)) (hb : xs.length ≤ 1000000) :
    Calls Try.prog 55 #[.pointer (some ⟨p, 0, none⟩)] w fun e w' => e = .returned (.tuple #[.agg #[.int .u64 x.1, .int .u64 x.2.1, .int .i64 x.2.2], .int .i64 0]) ∧ Hs w0 w' (LinkI p ep xs :: R) := by
  obtain ⟨A0, c0, H⟩ := LinkI.open_ H
  have hc := H.cellOf 1 rfl
  have hlt := H.lt
  have hrd := H.at1.ls_rd
  obtain ⟨g, off, rfl⟩ := hrd.some_ (by simp)
  have hx : w.cell? ⟨g, off, none⟩ = some (.int .u64 x.1) := hrd.cell (i := 0) rfl 0 rfl
  have hx1 : w.cell? ⟨g, off + 1, none⟩ = some (.int .u64 x.2.1) := hrd.cell (i := 0) rfl 1 rfl
  have hx2 : w.cell? ⟨g, off + 2, none⟩ = some (Value.int .i64 x.2.2) := hrd.cell (i := 0) rfl 2 rfl
  simp only [List.length_cons] at hc ⊢
  have hg : g < w.heap.size := lt_of_cell hx
  clear hrd
  have H0 := Lib.hid ((H.alloc (.cells #[.int .u64 0, .int .u64 0, Value.int .i64 (0)] 78)).alloc (.cells #[.int .u64 x.1, .int .u64 x.2.1, Value.int .i64 x.2.2] 78))
  clear H
  go_enter Try.func55, Try.ntmps55
  go_wp2_with (go_at_call 74; refine (delete74 _ (x :: xs) 0 1 _ _ _ H0.out.at3 (by omega) (by omega) (by rw [List.length_cons]; omega) (by rw [List.length_cons]; omega)).mono ?_)
  rintro e w1 ⟨A, c, m, hm, rfl, H1⟩
  obtain rfl : m = xs.length := by simp at hm; exact hm
  clear hm hx hx1 hx2 hc hg H0
  rw [show (w.alloc (.cells #[.int .u64 0, .int .u64 0, Value.int .i64 0] 78)).heap.size = w.heap.size + 1 from Array.size_push ..] at H1
  have H2 := H1.at3
  have hp1 := H2.cellOf 1 rfl
  have hp2 := H2.frozenOf 1
  have x0 : w1.cell? ⟨w.heap.size + 1, 0, none⟩ = some (.int .u64 x.1) := H1.at1.cellOf 0 rfl
  have x1 : w1.cell? ⟨w.heap.size + 1, 1, none⟩ = some (.int .u64 x.2.1) := H1.at1.cellOf 1 rfl
  have x2 : w1.cell? ⟨w.heap.size + 1, 2, none⟩ = some (Value.int .i64 x.2.2) := H1.at1.cellOf 2 rfl
  have r0 : w1.cell? ⟨w.heap.size, 0, none⟩ = some (.int .u64 0) := H1.at2.cellOf 0 rfl
  have r1 : w1.cell? ⟨w.heap.size, 1, none⟩ = some (.int .u64 0) := H1.at2.cellOf 1 rfl
  have r2 : w1.cell? ⟨w.heap.size, 2, none⟩ = some (Value.int .i64 0) := H1.at2.cellOf 2 rfl
  have q0 := H1.at2.frozenOf 0
  have q1 := H1.at2.frozenOf 1
  have q2 := H1.at2.frozenOf 2
  go_wp2_with fail
  have H3 := (((H2.setCell (i := 1) (.slice A xs.length c)).at3.setCell (i := 0) (.int .u64 x.1)).setCell (i := 1) (.int .u64 x.2.1)).setCell (i := 2) (Value.int .i64 x.2.2)
  generalize World.setCell _ _ _ = w2 at H3 ⊢
  have s0 : w2.cell? ⟨w.heap.size, 0, none⟩ = some (.int .u64 x.1) := H3.cellOf 0 rfl
  have s1 : w2.cell? ⟨w.heap.size, 1, none⟩ = some (.int .u64 x.2.1) := H3.cellOf 1 rfl
  have s2 : w2.cell? ⟨w.heap.size, 2, none⟩ = some (Value.int .i64 x.2.2) := H3.cellOf 2 rfl
  refine bodyPost_ret (v := .tuple #[.agg #[.int .u64 x.1, .int .u64 x.2.1, .int .i64 x.2.2], .int .i64 0]) (by simp [results, Try.results55, go_sem, s0, s1, s2]) rfl ⟨rfl, LinkI.mk_ (H3.drop.at2.drop)⟩
theorem link_kill58 (p : Nat) (ep n : Int) (xs : List (Int × Int × Int)) (w w0 : World) (R : List HP) (H : Hs w0 w (LinkI p ep xs :: R)) :
    Calls Try.prog 58 #[.pointer (some ⟨p, 0, none⟩), .int .u64 n] w fun e w' => e = .returned (.tuple #[]) ∧ Hs w0 w' (LinkI p (max ep n) [] :: R) := by
  obtain ⟨A, c, H⟩ := LinkI.open_ H
  have hc0 := H.cellOf 0 rfl
  have hc := H.cellOf 1 rfl
  have hf := H.frozenOf 1
  have hf0 := H.frozenOf 0
  go_enter Try.func58, Try.ntmps58
  go_wp2_with fail
  all_goals go_end0
  all_goals refine ⟨rfl, LinkI.mk_ (v := .slice none 0 0) ?_⟩
  · rw [show max ep n = n by omega]
    exact (((H.at1.drop.setCell (i := 1) (.slice none 0 0)).setCell (i := 0) (.int .u64 n)).ls_nil ((Enc.num .u64).pair ((Enc.num .u64).pair (Enc.num .i64))) 78).at1
  · rw [show max ep n = ep by omega]
    exact (((H.at1.drop.setCell (i := 1) (.slice none 0 0)).setCell (i := 0) (.int .u64 ep)).ls_nil ((Enc.num .u64).pair ((Enc.num .u64).pair (Enc.num .i64))) 78).at1
theorem link_all62 (p : Nat) (ep : Int) (xs : List (Int × Int × Int)) (w w0 : World) (R : List HP) (H : Hs w0 w (LinkI p ep xs :: R)) (hb : xs.length ≤ 1000001) :
    Calls Try.prog 62 #[.pointer (some ⟨p, 0, none⟩)] w fun e w' => ∃ A c, e = .returned (.slice A xs.length c) ∧ Hs w0 w' (Ls ((Enc.num .u64).pair ((Enc.num .u64).pair (Enc.num .i64))) 78 (.slice A xs.length c) xs :: LinkI p ep xs :: R) := by
  obtain ⟨A, c, H⟩ := LinkI.open_ H
  have hc := H.cellOf 1 rfl
  go_enter Try.func62, Try.ntmps62
  go_wp2_with (go_at_call 76; refine (clone76 _ xs _ _ _ H H.at1.ls_rd (by omega)).mono ?_)
  rintro e w1 ⟨A', c', rfl, H1⟩
  go_wp2_with fail
  go_ret
  exact ⟨_, _, rfl, (LinkI.mk_ H1.at2.at2).at1⟩
/-- A link at block p. -/
def LinkS (p : Nat) (ep : Int) (xs : List (Int × Int × ByteArray)) : HP := Ex fun v => Star (Blk p (.cells #[.int .u64 ep, v] 93 (0, 0))) (Ls ((Enc.num .u64).pair ((Enc.num .u64).pair Enc.str)) 64 v xs)
theorem LinkS.open_ {p : Nat} {ep : Int} {xs : List (Int × Int × ByteArray)} {w w0 : World} {R : List HP} (H : Hs w0 w (LinkS p ep xs :: R)) :
    ∃ A c, Hs w0 w (Blk p (.cells #[.int .u64 ep, .slice A xs.length c] 93 (0, 0)) :: Ls ((Enc.num .u64).pair ((Enc.num .u64).pair Enc.str)) 64 (.slice A xs.length c) xs :: R) := by
  obtain ⟨v, H⟩ := H.ex
  have H := H.part
  obtain ⟨A, c, rfl⟩ := H.at1.ls_form
  exact ⟨A, c, H⟩
theorem LinkS.mk_ {p : Nat} {ep : Int} {v : Value} {xs : List (Int × Int × ByteArray)} {w w0 : World} {R : List HP} (H : Hs w0 w (Blk p (.cells #[.int .u64 ep, v] 93 (0, 0)) :: Ls ((Enc.num .u64).pair ((Enc.num .u64).pair Enc.str)) 64 v xs :: R)) : Hs w0 w (LinkS p ep xs :: R) :=
  H.join.mono fun h hh => ⟨_, hh⟩
theorem link_new42 (ep : Int) (w w0 : World) (R : List HP) (H : Hs w0 w R) : Calls Try.prog 42 #[.int .u64 ep] w fun e w' => ∃ p, e = .returned (.pointer (some ⟨p, 0, none⟩)) ∧ Hs w0 w' (LinkS p ep [] :: R) := by
  go_enter Try.func42, Try.ntmps42
  go_wp2
  go_ret
  exact ⟨_, rfl, LinkS.mk_ ((H.ls_nil ((Enc.num .u64).pair ((Enc.num .u64).pair Enc.str)) 64).alloc _)⟩
theorem link_epoch70 (p : Nat) (ep : Int) (xs : List (Int × Int × ByteArray)) (w w0 : World) (R : List HP) (H : Hs w0 w (LinkS p ep xs :: R)) :
    Calls Try.prog 70 #[.pointer (some ⟨p, 0, none⟩)] w fun e w' => e = .returned (.int .u64 ep) ∧ w = w' := by
  obtain ⟨A, c, H⟩ := LinkS.open_ H
  have hc := H.cellOf 0 rfl
  go_enter Try.func70, Try.ntmps70
  go_wp2_with fail
  go_ret
  exact ⟨rfl, rfl⟩
set_option maxRecDepth 100000 in
theorem link_send45 (p : Nat) (ep n : Int) (x : Int × Int × ByteArray) (xs : List (Int × Int × ByteArray)) (w w0 : World) (R : List HP) (H : Hs w0 w (LinkS p ep xs :: R)) (hb : xs.length ≤ 1000000) :
    Calls Try.prog 45 #[.pointer (some ⟨p, 0, none⟩), .int .u64 n, .agg #[.int .u64 x.1, .int .u64 x.2.1, .string x.2.2]] w fun e w' => e = .returned (.int .i64 (if n = ep then 0 else 51)) ∧ Hs w0 w' (LinkS p ep (if n = ep then xs ++ [x] else xs) :: R) := by
  obtain ⟨A0, c0, H⟩ := LinkS.open_ H
  have hc0 := H.cellOf 0 rfl
  have hc := H.cellOf 1 rfl
  have hlt := H.lt
  by_cases hn : n = ep
  · subst hn
    simp only [if_true]
    go_enter Try.func45, Try.ntmps45
    go_wp2_with fail
    have H1 := H.alloc (.cells #[.int .u64 x.1, .int .u64 x.2.1, Value.string x.2.2] 64)
    clear H hc hc0 hlt
    generalize w.heap.size = bx at *
    generalize w.alloc _ = w1 at *
    have hx0 : w1.cell? ⟨bx, 0, none⟩ = some (.int .u64 x.1) := H1.cellOf 0 rfl
    have hx1 : w1.cell? ⟨bx, 1, none⟩ = some (.int .u64 x.2.1) := H1.cellOf 1 rfl
    have hx2 : w1.cell? ⟨bx, 2, none⟩ = some (Value.string x.2.2) := H1.cellOf 2 rfl
    have hc : w1.cell? ⟨p, 1, none⟩ = some (.slice A0 xs.length c0) := H1.at1.cellOf 1 rfl
    have H := H1
    have hl1 : p < w1.heap.size := H1.at1.lt
    have hl2 : bx < w1.heap.size := H1.lt
    go_region_law ((refine step_append_box (E := (Enc.num .u64).pair ((Enc.num .u64).pair Enc.str)) (v := .slice A0 xs.length c0) (by rfl) (.tmp 17) (.tmp 19) 91 (by rfl) 64 _ 3 32 Try.underlying91 info71 rfl (by decide) (by decide) rfl (by rfl) (by rfl) (by (first | (first | (first | with_reducible exact H | with_reducible exact H.at1 | with_reducible exact H.at2 | with_reducible exact H.at3 | with_reducible exact H.at4 | with_reducible exact H.at5 | with_reducible exact H.at6 | with_reducible exact H.at7) | (with_reducible apply Hs.alloc_under; first | with_reducible exact H | with_reducible exact H.at1 | with_reducible exact H.at2 | with_reducible exact H.at3 | with_reducible exact H.at4 | with_reducible exact H.at5 | with_reducible exact H.at6 | with_reducible exact H.at7) | (with_reducible apply Hs.alloc_under; with_reducible apply Hs.alloc_under; first | with_reducible exact H | with_reducible exact H.at1 | with_reducible exact H.at2 | with_reducible exact H.at3 | with_reducible exact H.at4 | with_reducible exact H.at5 | with_reducible exact H.at6 | with_reducible exact H.at7) | (with_reducible apply Hs.alloc_under; with_reducible apply Hs.alloc_under; with_reducible apply Hs.alloc_under; first | with_reducible exact H | with_reducible exact H.at1 | with_reducible exact H.at2 | with_reducible exact H.at3 | with_reducible exact H.at4 | with_reducible exact H.at5 | with_reducible exact H.at6 | with_reducible exact H.at7)) | (with_reducible apply Hs.drew; first | (first | with_reducible exact H | with_reducible exact H.at1 | with_reducible exact H.at2 | with_reducible exact H.at3 | with_reducible exact H.at4 | with_reducible exact H.at5 | with_reducible exact H.at6 | with_reducible exact H.at7) | (with_reducible apply Hs.alloc_under; first | with_reducible exact H | with_reducible exact H.at1 | with_reducible exact H.at2 | with_reducible exact H.at3 | with_reducible exact H.at4 | with_reducible exact H.at5 | with_reducible exact H.at6 | with_reducible exact H.at7) | (with_reducible apply Hs.alloc_under; with_reducible apply Hs.alloc_under; first | with_reducible exact H | with_reducible exact H.at1 | with_reducible exact H.at2 | with_reducible exact H.at3 | with_reducible exact H.at4 | with_reducible exact H.at5 | with_reducible exact H.at6 | with_reducible exact H.at7) | (with_reducible apply Hs.alloc_under; with_reducible apply Hs.alloc_under; with_reducible apply Hs.alloc_under; first | with_reducible exact H | with_reducible exact H.at1 | with_reducible exact H.at2 | with_reducible exact H.at3 | with_reducible exact H.at4 | with_reducible exact H.at5 | with_reducible exact H.at6 | with_reducible exact H.at7)))) x (by (first | exact RdL.boxAt _ (by simp) | exact (RdL.boxAt _ (by simp)).alloc _ | exact ((RdL.boxAt _ (by simp)).alloc _).alloc _ | (with_reducible apply RdL.drew; first | exact RdL.boxAt _ (by simp) | exact (RdL.boxAt _ (by simp)).alloc _ | exact ((RdL.boxAt _ (by simp)).alloc _).alloc _) | exact RdL.of_blk' H (by simp) rfl | exact RdL.of_blk' H.at1 (by simp) rfl | exact RdL.of_blk' H.at2 (by simp) rfl | exact RdL.of_blk' H.at3 (by simp) rfl | exact RdL.of_blk' H.at4 (by simp) rfl | exact RdL.of_blk' H.at5 (by simp) rfl | exact RdL.of_blk' H.at6 (by simp) rfl | exact RdL.of_blk' H.at7 (by simp) rfl | exact (RdL.of_blk' H (by simp) rfl).alloc _ | exact (RdL.of_blk' H.at1 (by simp) rfl).alloc _ | exact (RdL.of_blk' H.at2 (by simp) rfl).alloc _ | exact (RdL.of_blk' H.at3 (by simp) rfl).alloc _ | exact (RdL.of_blk' H.at4 (by simp) rfl).alloc _ | exact (RdL.of_blk' H.at5 (by simp) rfl).alloc _ | exact (RdL.of_blk' H.at6 (by simp) rfl).alloc _ | exact (RdL.of_blk' H.at7 (by simp) rfl).alloc _)) (by omega) ?_; intro A cap w3 H1; replace H1 := H1.at3; have hc1 := H1.cellOf 1 rfl; have hf1 := H1.frozenOf 1))
    all_goals
      go_wp2_with fail
      go_ret
      exact ⟨rfl, LinkS.mk_ (H1.setCell (i := 1) _).at3.drop.at2.drop⟩
  · simp only [if_neg hn]
    have hne : (n != ep) = true := by rw [bne_iff_ne]; exact hn
    go_enter Try.func45, Try.ntmps45
    go_wp2_with fail
    go_ret
    exact ⟨rfl, LinkS.mk_ (H.alloc_ _)⟩
theorem link_len77 (p : Nat) (ep : Int) (xs : List (Int × Int × ByteArray)) (w w0 : World) (R : List HP) (H : Hs w0 w (LinkS p ep xs :: R)) :
    Calls Try.prog 77 #[.pointer (some ⟨p, 0, none⟩)] w fun e w' => e = .returned (.int .i64 xs.length) ∧ w = w' := by
  obtain ⟨A, c, H⟩ := LinkS.open_ H
  have hc := H.cellOf 1 rfl
  go_enter Try.func77, Try.ntmps77
  go_wp2_with fail
  go_ret
  exact ⟨rfl, rfl⟩
theorem link_deliver_nil48 (p : Nat) (ep : Int) (w w0 : World) (R : List HP) (H : Hs w0 w (LinkS p ep [] :: R)) :
    Calls Try.prog 48 #[.pointer (some ⟨p, 0, none⟩)] w fun e w' => e = .returned (.tuple #[.agg #[.int .u64 0, .int .u64 0, .string ByteArray.empty], .int .i64 52]) ∧ Hs w0 w' (LinkS p ep [] :: R) := by
  obtain ⟨A0, c0, H⟩ := LinkS.open_ H
  have hc := H.cellOf 1 rfl
  have hlt := H.lt
  simp only [List.length_nil] at hc
  go_enter Try.func48, Try.ntmps48
  go_wp2_with fail
  refine bodyPost_ret (v := .tuple #[.agg #[.int .u64 0, .int .u64 0, .string ByteArray.empty], .int .i64 52]) (by first | (simp [results, Try.results48, go_sem]; done) | (simp [results, Try.results48, go_sem]; rfl)) rfl ⟨rfl, LinkS.mk_ ((H.alloc_ _).alloc_ _)⟩
theorem link_deliver48 (p : Nat) (ep : Int) (x : Int × Int × ByteArray) (xs : List (Int × Int × ByteArray)) (w w0 : World) (R : List HP) (H : Hs w0 w (LinkS p ep (x :: xs) :: R)) (hb : xs.length ≤ 1000000) :
    Calls Try.prog 48 #[.pointer (some ⟨p, 0, none⟩)] w fun e w' => e = .returned (.tuple #[.agg #[.int .u64 x.1, .int .u64 x.2.1, .string x.2.2], .int .i64 0]) ∧ Hs w0 w' (LinkS p ep xs :: R) := by
  obtain ⟨A0, c0, H⟩ := LinkS.open_ H
  have hc := H.cellOf 1 rfl
  have hlt := H.lt
  have hrd := H.at1.ls_rd
  obtain ⟨g, off, rfl⟩ := hrd.some_ (by simp)
  have hx : w.cell? ⟨g, off, none⟩ = some (.int .u64 x.1) := hrd.cell (i := 0) rfl 0 rfl
  have hx1 : w.cell? ⟨g, off + 1, none⟩ = some (.int .u64 x.2.1) := hrd.cell (i := 0) rfl 1 rfl
  have hx2 : w.cell? ⟨g, off + 2, none⟩ = some (Value.string x.2.2) := hrd.cell (i := 0) rfl 2 rfl
  simp only [List.length_cons] at hc ⊢
  have hg : g < w.heap.size := lt_of_cell hx
  clear hrd
  have H0 := Lib.hid ((H.alloc (.cells #[.int .u64 0, .int .u64 0, Value.string (ByteArray.empty)] 64)).alloc (.cells #[.int .u64 x.1, .int .u64 x.2.1, Value.string x.2.2] 64))
  clear H
  go_enter Try.func48, Try.ntmps48
  go_wp2_with (go_at_call 71; refine (delete71 _ (x :: xs) 0 1 _ _ _ H0.out.at3 (by omega) (by omega) (by rw [List.length_cons]; omega) (by rw [List.length_cons]; omega)).mono ?_)
  rintro e w1 ⟨A, c, m, hm, rfl, H1⟩
  obtain rfl : m = xs.length := by simp at hm; exact hm
  clear hm hx hx1 hx2 hc hg H0
  rw [show (w.alloc (.cells #[.int .u64 0, .int .u64 0, Value.string ByteArray.empty] 64)).heap.size = w.heap.size + 1 from Array.size_push ..] at H1
  have H2 := H1.at3
  have hp1 := H2.cellOf 1 rfl
  have hp2 := H2.frozenOf 1
  have x0 : w1.cell? ⟨w.heap.size + 1, 0, none⟩ = some (.int .u64 x.1) := H1.at1.cellOf 0 rfl
  have x1 : w1.cell? ⟨w.heap.size + 1, 1, none⟩ = some (.int .u64 x.2.1) := H1.at1.cellOf 1 rfl
  have x2 : w1.cell? ⟨w.heap.size + 1, 2, none⟩ = some (Value.string x.2.2) := H1.at1.cellOf 2 rfl
  have r0 : w1.cell? ⟨w.heap.size, 0, none⟩ = some (.int .u64 0) := H1.at2.cellOf 0 rfl
  have r1 : w1.cell? ⟨w.heap.size, 1, none⟩ = some (.int .u64 0) := H1.at2.cellOf 1 rfl
  have r2 : w1.cell? ⟨w.heap.size, 2, none⟩ = some (Value.string ByteArray.empty) := H1.at2.cellOf 2 rfl
  have q0 := H1.at2.frozenOf 0
  have q1 := H1.at2.frozenOf 1
  have q2 := H1.at2.frozenOf 2
  go_wp2_with fail
  have H3 := (((H2.setCell (i := 1) (.slice A xs.length c)).at3.setCell (i := 0) (.int .u64 x.1)).setCell (i := 1) (.int .u64 x.2.1)).setCell (i := 2) (Value.string x.2.2)
  generalize World.setCell _ _ _ = w2 at H3 ⊢
  have s0 : w2.cell? ⟨w.heap.size, 0, none⟩ = some (.int .u64 x.1) := H3.cellOf 0 rfl
  have s1 : w2.cell? ⟨w.heap.size, 1, none⟩ = some (.int .u64 x.2.1) := H3.cellOf 1 rfl
  have s2 : w2.cell? ⟨w.heap.size, 2, none⟩ = some (Value.string x.2.2) := H3.cellOf 2 rfl
  refine bodyPost_ret (v := .tuple #[.agg #[.int .u64 x.1, .int .u64 x.2.1, .string x.2.2], .int .i64 0]) (by simp [results, Try.results48, go_sem, s0, s1, s2]) rfl ⟨rfl, LinkS.mk_ (H3.drop.at2.drop)⟩
end Go.Proofs.Ytoiokmfdmpifiaa

import Derived.Test.YtjdkpogkhecijaaOs
import Derived.Test.YtjdkpogkhecijaaOf
import Derived.Test.YtjdkpogkhecijaaOc
import Derived.IntWalk
import Derived.Lib.SlBytesConst
import Derived.Test.YtjdkpogkhecijaaProg
import Derived.Test.YtjdkpogkhecijaaLs
import Derived.Outline
import Derived.StillTailTactics
import Derived.Deep.DeepCutAuto
import Derived.Deep.CutBlock
import Derived.Deep.LoopGhost
import Derived.Deep.QuietTactic
import Derived.BigQuiet
import Derived.Deep.RegionHeld3
import Derived.Deep.RegionLaw
set_option linter.unusedVariables false
set_option linter.unusedSimpArgs false
namespace Go.Proofs.Ytjdkpogkhecijaa
open Go.RowKit
def kF : Fr := (2, (0, 0, 0), 5, 0, false)
def kA : List Int := [2, 0, 0, 0, 0, 0, 0, 0, 5]
def kS : List Int := [0, 0, 0, 3, 53, 36, 65, 194, 97, 98, 99]
theorem k_fout : fout kF = kA := by kernel_rfl
theorem k_ferr : ferr kF = 0 := by kernel_rfl
theorem k_open : opF kA = (kF, 0) := by kernel_rfl
theorem k_seal : sealB [97, 98, 99] = kS := by kernel_rfl
theorem k_op1 : opS (kS ++ [9]) = ([97, 98, 99], 11, 0) := by kernel_rfl
theorem k_op2 : opS (kS.take 10) = ([], 0, 11) := by kernel_rfl
theorem k_zout : fout zeroF = [] := by kernel_rfl
theorem k_zerr : ferr zeroF = 10 := by kernel_rfl
theorem k_crc : crc [49, 50, 51, 52, 53, 54, 55, 56, 57] = 3421780262 := by kernel_rfl
theorem byt_of {l : List Int} (h : l.all (fun x => decide (0 ≤ x) && decide (x < 256)) = true) : Byt l := fun x hx => by have := List.all_eq_true.1 h x hx; simpa using this
set_option maxRecDepth 100000 in
set_option maxHeartbeats 400000 in
theorem copy17 (v : Value) (bs : List Int) (w w0 : World) (R : List HP) (H : Hs w0 w R) (hr : RdL U8 w v bs) (hl : bs.length ≤ 100000000) :
    Calls Try.prog 17 #[v] w fun e w' => ∃ A c, e = .returned (.slice A bs.length c) ∧ Hs w0 w' (Ls U8 5 (.slice A bs.length c) bs :: R) := by
  obtain ⟨A, c, rfl⟩ := hr.form
  have K := Lib.hid (H.ls_nil U8 5)
  have hr0 := Lib.hid hr
  obtain ⟨n, hn⟩ : ∃ n, bs.length = n := ⟨_, rfl⟩
  rw [hn] at hr0 hl ⊢
  replace hn := Lib.hid hn
  clear H hr
  go_enter Try.func17, Try.ntmps17
  go_wp2_with (at_builtin; refine wpList_appendN n rfl (.const (.slice none 0 0)) (.tmp 3) 22 rfl 5 _ 1 1 Try.underlying22 infoB8 rfl (by decide) (by decide) rfl rfl _ rfl K.out hr0.out (by omega) (by rw [hn.out]; simp) ?_)
  intro A5 c5 w5 K5
  replace K5 := Lib.hid K5
  clear K
  go_wp2_with fail
  go_ret
  exact ⟨A5, c5, rfl, K5.out⟩
theorem rd_lit {w0 w : World} {b : Nat} {xs : List Int} {cs : Array Value} {fr : Nat × Nat} {R : List HP} (H : Hs w0 w (Blk b (.cells cs 5 fr) :: R)) (hcs : cs = (flat U8 xs).toArray) (n : Nat) (hn : n = xs.length) (hm : n ≤ 1000000) : RdL U8 w (.slice (some ⟨b, 0, none⟩) n n) xs := by
  subst hcs
  subst hn
  refine ⟨_, _, rfl, by unfold maxLen; omega, Nat.le_refl _, by unfold maxLen; omega, fun h => (by cases h), fun _ a ha => ?_⟩
  injection ha with ha
  subst ha
  refine ⟨rfl, fun j u hu => ?_⟩
  rw [cell_of_row _ _ _ _ _ _ H.blk]
  simpa using hu
theorem k19 (w w0 : World) (R : List HP) (H : Hs w0 w R) : Calls Try.prog 19 #[.agg #[.int .i64 2, .int .i64 0, .int .i64 0, .int .i64 0, .int .i64 5, .int .u64 0, .bool false]] w fun e w' => ∃ A c, e = .returned (.tuple #[.slice A 9 c, .int .i64 0]) ∧ Hs w0 w' (Ls U8 5 (.slice A 9 c) kA :: R) := by
  refine (frame19 kF ⟨by decide, by decide⟩ w w0 _ H).mono ?_
  rintro e w1 ⟨A1, c1, rfl, K1⟩
  rw [k_fout] at K1
  rw [k_fout, k_ferr]
  exact ⟨A1, c1, rfl, K1⟩
theorem k19z (w w0 : World) (R : List HP) (H : Hs w0 w R) : Calls Try.prog 19 #[.agg #[.int .i64 0, .int .i64 0, .int .i64 0, .int .i64 0, .int .i64 0, .int .u64 0, .bool false]] w fun e w' => ∃ A c, e = .returned (.tuple #[.slice A 0 c, .int .i64 10]) ∧ Hs w0 w' R := by
  refine (frame19 zeroF ⟨by decide, by decide⟩ w w0 _ H).mono ?_
  rintro e w1 ⟨A1, c1, rfl, K1⟩
  rw [k_zout, k_zerr]
  exact ⟨A1, c1, rfl, K1.tail⟩
theorem k23 (v : Value) (w w0 : World) (R : List HP) (H : Hs w0 w R) (hr : ∀ w', Hs w0 w' R → RdL U8 w' v kA) : Calls Try.prog 23 #[v] w fun e w' => e = .returned (.tuple #[.agg #[.int .i64 2, .int .i64 0, .int .i64 0, .int .i64 0, .int .i64 5, .int .u64 0, .bool false], .int .i64 0]) ∧ Hs w0 w' R := by
  refine (openF23 v kA w w0 R H hr (byt_of (by decide))).mono ?_
  rintro e w1 ⟨rfl, K1⟩
  rw [k_open]
  exact ⟨rfl, K1⟩
theorem k11 (v : Value) (w w0 : World) (R : List HP) (H : Hs w0 w R) (hr : ∀ w', Hs w0 w' R → RdL U8 w' v [97, 98, 99]) : Calls Try.prog 11 #[v] w fun e w' => ∃ A c, e = .returned (.slice A 11 c) ∧ Hs w0 w' (Ls U8 5 (.slice A 11 c) kS :: R) := by
  refine (seal11 v [97, 98, 99] w w0 R H hr (byt_of (by decide)) (by decide)).mono ?_
  rintro e w1 ⟨A1, c1, rfl, K1⟩
  rw [k_seal] at K1
  exact ⟨A1, c1, rfl, K1⟩
theorem k16 (v : Value) (w w0 : World) (R : List HP) (H : Hs w0 w R) (hr : ∀ w', Hs w0 w' R → RdL U8 w' v (kS ++ [9])) : Calls Try.prog 16 #[v] w fun e w' => ∃ A c, e = .returned (.tuple #[.slice A 3 c, .int .i64 11, .int .i64 0]) ∧ Hs w0 w' R := by
  refine (open16 v (kS ++ [9]) w w0 R H hr (byt_of (by decide)) (by decide)).mono ?_
  rintro e w1 ⟨A1, c1, rfl, K1⟩
  rw [k_op1]
  exact ⟨A1, c1, rfl, K1.tail⟩
theorem k16b (v : Value) (w w0 : World) (R : List HP) (H : Hs w0 w R) (hr : ∀ w', Hs w0 w' R → RdL U8 w' v (kS.take 10)) : Calls Try.prog 16 #[v] w fun e w' => ∃ A c, e = .returned (.tuple #[.slice A 0 c, .int .i64 0, .int .i64 11]) ∧ Hs w0 w' R := by
  refine (open16 v (kS.take 10) w w0 R H hr (byt_of (by decide)) (by decide)).mono ?_
  rintro e w1 ⟨A1, c1, rfl, K1⟩
  rw [k_op2]
  exact ⟨A1, c1, rfl, K1.tail⟩
theorem k14 (v : Value) (w w0 : World) (R : List HP) (H : Hs w0 w R) (hr : ∀ w', Hs w0 w' R → RdL U8 w' v [49, 50, 51, 52, 53, 54, 55, 56, 57]) : Calls Try.prog 14 #[v] w fun e w' => e = .returned (.int .u32 3421780262) ∧ Hs w0 w' R := by
  refine (sum14 v _ w w0 R H hr (byt_of (by decide)) (by decide)).mono ?_
  rintro e w1 ⟨rfl, K1⟩
  rw [k_crc]
  exact ⟨rfl, K1⟩
theorem eqsame12 (v1 v2 : Value) (xs : List Int) (w w0 : World) (R : List HP) (H : Hs w0 w R) (h1 : RdL U8 w v1 xs) (h2 : RdL U8 w v2 xs) : Calls Try.prog 12 #[v1, v2] w fun e w' => e = .returned (.bool true) ∧ Hs w0 w' R := by
  refine (eqlist12 v1 v2 xs xs w h1 h2).mono ?_
  rintro e w' ⟨rfl, n, rfl⟩
  exact ⟨by rw [decide_eq_true rfl], H.drewN n⟩
set_option maxRecDepth 100000 in
set_option maxHeartbeats 4000000 in
theorem known10 (w w0 : World) (R : List HP) (H : Hs w0 w R) : Calls Try.prog 10 #[] w fun e w' => e = .returned (.bool true) ∧ Hs w0 w' R := by
  have hcv := fun (w : World) (C : Array Value) (n c : Nat) => Lib.run_convert_bytes_const (P := Try.prog) w 22 5 C n c Try.underlying22 Try.underlying5
  have K := Lib.hid H
  clear H
  go_enter Try.func10, Try.ntmps10
  go_wp2_with fail
  refine (k19 w w0 _ K.out).mono ?_
  rintro e w1 ⟨A1, c1, rfl, K1⟩
  replace K1 := Lib.hid K1
  clear K
  go_wp2_with fail
  refine (k23 (.slice A1 9 c1) w1 w0 _ K1.out (fun w' h => h.ls_rd)).mono ?_
  rintro e w2 ⟨rfl, K2⟩
  have Kb := Lib.hid (K2.alloc (.cells #[.int .i64 2, .int .i64 0, .int .i64 0, .int .i64 0, .int .i64 5, .int .u64 0, .bool false] 37))
  clear K1 K2
  go_upto_region 3 with (fail)
  generalize World.alloc w2 _ = w2' at Kb ⊢
  generalize w2.heap.size = bf at Kb ⊢
  have K3 := Lib.hid (Kb.out.alloc (.cells #[.int .u8 97, .int .u8 98, .int .u8 99] 5 (3, 4)))
  clear Kb
  go_wp2_with fail
  generalize World.alloc w2' _ = w3 at K3 ⊢
  generalize w2'.heap.size = g3 at K3 ⊢
  refine (k11 _ w3 w0 _ K3.out (fun w' h => rd_lit h rfl 3 rfl (by omega))).mono ?_
  rintro e w4 ⟨A4, c4, rfl, K4⟩
  have h11 := (K4.ls_rd).caps.2
  replace K4 := Lib.hid K4
  clear K3
  go_wp2_with fail
  refine (copy17 (.slice A4 11 c4) kS w4 w0 _ K4.out K4.out.ls_rd (by decide)).mono ?_
  rintro e w5 ⟨A5, c5, rfl, K5⟩
  replace K5 : Hid (Hs w0 w5 (Ls U8 5 (.slice A5 11 c5) kS :: _)) := Lib.hid K5
  clear K4
  go_wp2_with (at_builtin; refine wpList_append1N (E := U8) 11 rfl rfl (.tmp 32) (.tmp 33) 22 rfl 5 _ 1 1 Try.underlying22 infoB8 rfl (by decide) (by decide) rfl rfl rfl (by simp) K5.out 9 (by omega) ?_)
  intro A6 c6 w6 K6
  replace K6 := Lib.hid K6
  clear K5
  go_wp2_with fail
  refine (k16 _ w6 w0 _ K6.out (fun w' h => h.ls_rd)).mono ?_
  rintro e w7 ⟨A7, c7, rfl, K7⟩
  replace K7 := Lib.hid K7.tail
  clear K6
  have ct := cut_take Try.prog 22 5 1 Try.underlying22 (by kernel_rfl) A4 11 c4 10 (by omega)
  go_wp2_with fail
  refine (k16b _ w7 w0 _ K7.out (fun w' h => h.ls_rd.take 10 (by omega))).mono ?_
  rintro e w8 ⟨A8, c8, rfl, K8⟩
  replace K8 := Lib.hid K8
  clear K7 ct
  go_wp2_with fail
  refine (k19z w8 w0 _ K8.out).mono ?_
  rintro e w9 ⟨A9, c9, rfl, K9⟩
  have K10 := Lib.hid (K9.ls_lit U8 5 kA #[.int .u8 2, .int .u8 0, .int .u8 0, .int .u8 0, .int .u8 0, .int .u8 0, .int .u8 0, .int .u8 0, .int .u8 5] rfl 9 rfl (by omega))
  clear K8 K9
  go_wp2_with fail
  generalize World.alloc w9 _ = wa at K10 ⊢
  generalize w9.heap.size = ga at K10 ⊢
  refine (eqsame12 _ _ kA wa w0 _ K10.out (K10.out.at4.ls_rd) K10.out.ls_rd).mono ?_
  rintro e wb ⟨rfl, K11⟩
  have f2 : wb.cell? ⟨bf, 4, none⟩ = some (.int .i64 5) := K11.at3.cellOf 4 rfl
  have K12 := Lib.hid (K11.alloc (.cells #[.int .u8 49, .int .u8 50, .int .u8 51, .int .u8 52, .int .u8 53, .int .u8 54, .int .u8 55, .int .u8 56, .int .u8 57] 5 (9, 10)))
  clear K10 K11
  go_wp2_with fail
  generalize World.alloc wb _ = wc at K12 ⊢
  generalize wb.heap.size = gb at K12 ⊢
  refine (k14 _ wc w0 _ K12.out (fun w' h => rd_lit h rfl 9 rfl (by omega))).mono ?_
  rintro e wd ⟨rfl, K13⟩
  replace K13 := Lib.hid K13
  clear K12 f2
  go_wp2_with fail
  go_ret
  exact ⟨rfl, K13.out.tail.tail.tail.tail.tail.tail⟩
end Go.Proofs.Ytjdkpogkhecijaa

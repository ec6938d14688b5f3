import Derived.Test.YtlaicngliopjoaaLk
import Derived.Test.YtlaicngliopjoaaCd
import Derived.Test.YtlaicngliopjoaaProg
import Derived.Test.YtlaicngliopjoaaLs
import Derived.Outline
import Derived.StillTailTactics
import Derived.Deep.DeepCutAuto
import Derived.Deep.CutBlock
import Derived.Deep.LoopGhost
import Derived.Deep.QuietTactic
import Derived.BigQuiet
import Derived.Deep.RegionHeld3
import Derived.Deep.RegionLaw
set_option linter.unusedVariables false
set_option linter.unusedSimpArgs false
namespace Go.Proofs.Ytlaicngliopjoaa
open Go.RowKit
theorem place10 (k n : Int) (w : World) (hn : 0 < n) (hn2 : n ≤ 9223372036854775807) (h1 : -9223372036854775808 ≤ k) (h2 : k ≤ 9223372036854775807) :
    Calls Try.prog 10 #[.int .i64 k, .int .i64 n] w fun e w' => e = .returned (.int .i64 (k % n)) ∧ w = w' := by
  have hlo := Int.lt_tmod_of_pos k hn
  have hhi := Int.tmod_lt_of_pos k hn
  have hp0 : (n == 0) = false := by rw [beq_eq_false_iff_ne]; omega
  rcases Int.lt_or_le (k.tmod n) 0 with hneg | hneg
  · have e := Lib.hid (tmod_up k n hn hneg)
    go_enter Try.func10, Try.ntmps10
    go_wp2_with fail
    go_ret
    exact ⟨by rw [← e.out]; rfl, rfl⟩
  · have e := Lib.hid (tmod_in k n hn hneg)
    go_enter Try.func10, Try.ntmps10
    go_wp2_with fail
    go_ret
    exact ⟨by rw [← e.out]; rfl, rfl⟩
def sa : ByteArray := { data := #[97] }
def sb : ByteArray := { data := #[98] }
def sc : ByteArray := { data := #[99] }
def sp : ByteArray := { data := #[112] }
def sq : ByteArray := { data := #[113] }
set_option maxRecDepth 100000 in
theorem known6 (w w0 : World) (R : List HP) (H : Hs w0 w R) : Calls Try.prog 6 #[] w fun e w' => e = .returned (.bool true) ∧ Hs w0 w' R := by
  have ea : sa.toList = [97] := by decide +kernel
  have eq : sq.toList = [113] := by decide +kernel
  go_enter Try.func6, Try.ntmps6
  go_wp2_with fail
  refine (link_new20 1 _ _ _ H).mono ?_
  rintro e w1 ⟨p, rfl, H⟩
  go_wp2_with fail
  refine (cloud_new21 _ _ _ H).mono ?_
  rintro e w2 ⟨q, rfl, H⟩
  go_wp2_with fail
  refine (link_send22 p 1 1 sa [] _ _ _ H.at1 (by simp)).mono ?_
  rintro e w3 ⟨rfl, H⟩
  go_wp2_with fail
  refine (link_send22 p 1 1 sb [sa] _ _ _ H (by simp)).mono ?_
  rintro e w4 ⟨rfl, H⟩
  go_wp2_with fail
  refine (link_deliver23 p 1 [sa, sb] _ _ _ H (by simp)).mono ?_
  rintro e w5 ⟨rfl, H⟩
  go_wp2_with fail
  refine (link_kill24 p 1 2 [sb] _ _ _ H).mono ?_
  rintro e w6 ⟨rfl, H⟩
  go_wp2_with fail
  refine (link_deliver23 p 2 [] _ _ _ H (by simp)).mono ?_
  rintro e w7 ⟨rfl, H⟩
  go_wp2_with fail
  refine (link_send22 p 2 1 sc [] _ _ _ H (by simp)).mono ?_
  rintro e w8 ⟨rfl, H⟩
  go_wp2_with fail
  refine (cloud_send25 q 4 sp [] _ _ _ H.at1 (by simp)).mono ?_
  rintro e w9 ⟨rfl, H⟩
  go_wp2_with fail
  refine (cloud_send25 q 5 sq [(4, sp)] _ _ _ H (by simp)).mono ?_
  rintro e w10 ⟨rfl, H⟩
  go_wp2_with fail
  refine (cloud_pick26 q (-1) 1 [(4, sp), (5, sq)] 1 (5, sq) _ _ _ H (by simp) (by simp) (by decide) rfl).mono ?_
  rintro e w11 ⟨rfl, H⟩
  go_wp2_with fail
  refine (cloud_len27 q [(4, sp), (5, sq)] _ _ _ H).mono ?_
  rintro e w12 ⟨rfl, rfl⟩
  go_wp2_with fail
  refine (cloud_pick26 q 0 2 [(4, sp), (5, sq)] 0 (4, sp) _ _ _ H (by simp) (by simp) (by decide) rfl).mono ?_
  rintro e w13 ⟨rfl, H⟩
  go_wp2_with fail
  refine (link_epoch28 p 2 [] _ _ _ H.at1).mono ?_
  rintro e w14 ⟨rfl, rfl⟩
  go_wp2_with fail
  refine (cloud_len27 q [(5, sq)] _ _ _ H).mono ?_
  rintro e w15 ⟨rfl, rfl⟩
  go_wp2_with fail
  go_ret
  exact ⟨rfl, H.drop.drop⟩
end Go.Proofs.Ytlaicngliopjoaa

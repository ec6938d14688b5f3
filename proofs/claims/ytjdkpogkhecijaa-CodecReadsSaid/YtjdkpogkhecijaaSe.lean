import Derived.Test.YtjdkpogkhecijaaUh
import Derived.Test.YtjdkpogkhecijaaUh
import Derived.Test.YtjdkpogkhecijaaPa
import Derived.Test.YtjdkpogkhecijaaRr
import Derived.Test.YtjdkpogkhecijaaP2
import Derived.IntWalk
import Derived.Test.YtjdkpogkhecijaaProg
import Derived.Test.YtjdkpogkhecijaaLs
import Derived.Outline
import Derived.StillTailTactics
import Derived.Deep.DeepCutAuto
import Derived.Deep.CutBlock
import Derived.Deep.LoopGhost
import Derived.Deep.QuietTactic
import Derived.BigQuiet
import Derived.Deep.RegionHeld3
import Derived.Deep.RegionLaw
set_option linter.unusedVariables false
set_option linter.unusedSimpArgs false
namespace Go.Proofs.Ytjdkpogkhecijaa
open Go.RowKit
/-! ### seals -/
def sealB (b : List Int) : List Int := put 4 (b.length : Int) ++ (put 4 (crc b : Int) ++ b)
theorem sealB_len (b : List Int) : (sealB b).length = 8 + b.length := by unfold sealB; rw [List.length_append, List.length_append, put_len, put_len]; omega
theorem sealB_byt {b : List Int} (h : Byt b) : Byt (sealB b) := Byt.append (put_byt _ _) (Byt.append (put_byt _ _) h)
set_option maxRecDepth 100000 in
set_option maxHeartbeats 1600000 in
theorem seal11 (v : Value) (b : List Int) (w w0 : World) (R : List HP) (H : Hs w0 w R) (hr : ∀ w', Hs w0 w' R → RdL U8 w' v b) (hb : Byt b) (hl : b.length ≤ 100000000) :
    Calls Try.prog 11 #[v] w fun e w' => ∃ A c, e = .returned (.slice A (8 + b.length) c) ∧ Hs w0 w' (Ls U8 5 (.slice A (8 + b.length) c) (sealB b) :: R) := by
  obtain ⟨A0, cb, hv⟩ := (hr w H).form
  subst hv
  obtain ⟨n, hn⟩ : ∃ n, b.length = n := ⟨_, rfl⟩
  have hse : Hid (sealB b = put 4 (n : Int) ++ (put 4 (crc b : Int) ++ b)) := by show _ = _; unfold sealB; rw [hn]
  have hcr := crc_lt hb
  rw [hn] at hr hl ⊢
  have hr0 := Lib.hid hr
  have hb0 := Lib.hid hb
  replace hn := Lib.hid hn
  obtain ⟨cr, hcr2⟩ : ∃ x, crc b = x := ⟨_, rfl⟩
  rw [hcr2] at hcr hse
  replace hcr2 := Lib.hid hcr2
  have K := Lib.hid (H.ls_nil U8 5)
  clear H hr hb
  go_enter Try.func11, Try.ntmps11
  go_wp2_with fail
  refine (number40 (.slice none 0 0) [] (n : Int) ⟨by omega, by omega⟩ 4 (by omega) w w0 _ K.out (by simp)).mono ?_
  rintro e w2 ⟨A2, c2, rfl, K2⟩
  replace K2 := Lib.hid K2
  clear K
  go_wp2_with fail
  refine (sum14 (.slice A0 n cb) b w2 w0 _ K2.out (fun w' h => hr0.out w' h.tail) hb0.out (by have := hn.out; omega)).mono ?_
  rintro e w3 ⟨rfl, K3⟩
  rw [hcr2.out]
  replace K3 := Lib.hid K3
  clear K2
  go_wp2_with fail
  refine (number40 (.slice A2 4 c2) ([] ++ put 4 (n : Int)) (cr : Int) ⟨by omega, by omega⟩ 4 (by omega) w3 w0 _ K3.out (by rw [List.nil_append, put_len]; omega)).mono ?_
  rintro e w4 ⟨A4, c4, rfl, K4⟩
  rw [List.nil_append, put_len] at K4 ⊢
  have hl4 : Hid ((put 4 (n : Int) ++ put 4 (cr : Int)).length = 4 + 4) := by show _ = _; rw [List.length_append, put_len, put_len]
  replace K4 := Lib.hid K4
  clear K3
  go_wp2_with (at_builtin; refine wpList_appendN (8 + n) rfl (.tmp 10) (.tmp 11) 22 rfl 5 _ 1 1 Try.underlying22 infoB8 rfl (by decide) (by decide) rfl rfl _ rfl K4.out (hr0.out _ K4.out.tail) (by omega) (by rw [hl4.out, hn.out]) ?_)
  intro A5 c5 w5 K5
  rw [← hse.out] at K5
  replace K5 := Lib.hid K5
  clear K4
  go_wp2_with fail
  go_ret
  exact ⟨A5, c5, rfl, K5.out⟩
set_option maxRecDepth 100000 in
set_option maxHeartbeats 1600000 in
theorem rseal13 (v : Value) (b : List Int) (w w0 : World) (R : List HP) (H : Hs w0 w R) (hr : ∀ w', Hs w0 w' R → RdL U8 w' v b) (hb : Byt b) (hl : b.length ≤ 100000000) :
    Calls Try.prog 13 #[v] w fun e w' => ∃ A c, e = .returned (.slice A (8 + b.length) c) ∧ Hs w0 w' (Ls U8 5 (.slice A (8 + b.length) c) (sealB b) :: R) := by
  obtain ⟨A0, cb, hv⟩ := (hr w H).form
  subst hv
  obtain ⟨n, hn⟩ : ∃ n, b.length = n := ⟨_, rfl⟩
  have hse : Hid (sealB b = put 4 (n : Int) ++ (put 4 (crc b : Int) ++ b)) := by show _ = _; unfold sealB; rw [hn]
  have hcr := crc_lt hb
  rw [hn] at hr hl ⊢
  have hr0 := Lib.hid hr
  have hb0 := Lib.hid hb
  replace hn := Lib.hid hn
  obtain ⟨cr, hcr2⟩ : ∃ x, crc b = x := ⟨_, rfl⟩
  rw [hcr2] at hcr hse
  replace hcr2 := Lib.hid hcr2
  have K := Lib.hid (H.ls_nil U8 5)
  clear H hr hb
  go_enter Try.func13, Try.ntmps13
  go_wp2_with fail
  refine (put41 (.slice none 0 0) [] (n : Int) ⟨by omega, by omega⟩ 4 (by omega) w w0 _ K.out (by simp)).mono ?_
  rintro e w2 ⟨A2, c2, rfl, K2⟩
  replace K2 := Lib.hid K2
  clear K
  go_wp2_with fail
  refine (sum15 (.slice A0 n cb) b w2 (hr0.out w2 K2.out.tail) hb0.out (by have := hn.out; omega)).mono ?_
  rintro e w3 ⟨rfl, rfl⟩
  rw [hcr2.out]
  have K3 := K2
  clear K2
  go_wp2_with fail
  refine (put41 (.slice A2 4 c2) ([] ++ put 4 (n : Int)) (cr : Int) ⟨by omega, by omega⟩ 4 (by omega) w2 w0 _ K3.out (by rw [List.nil_append, put_len]; omega)).mono ?_
  rintro e w4 ⟨A4, c4, rfl, K4⟩
  rw [List.nil_append, put_len] at K4 ⊢
  have hl4 : Hid ((put 4 (n : Int) ++ put 4 (cr : Int)).length = 4 + 4) := by show _ = _; rw [List.length_append, put_len, put_len]
  replace K4 := Lib.hid K4
  clear K3
  go_wp2_with (at_builtin; refine wpList_appendN (8 + n) rfl (.tmp 10) (.tmp 11) 22 rfl 5 _ 1 1 Try.underlying22 infoB8 rfl (by decide) (by decide) rfl rfl _ rfl K4.out (hr0.out _ K4.out.tail) (by omega) (by rw [hl4.out, hn.out]) ?_)
  intro A5 c5 w5 K5
  rw [← hse.out] at K5
  replace K5 := Lib.hid K5
  clear K4
  go_wp2_with fail
  go_ret
  exact ⟨A5, c5, rfl, K5.out⟩
end Go.Proofs.Ytjdkpogkhecijaa

import Derived.Test.YtjdkpogkhecijaaSe
import Derived.Test.YtjdkpogkhecijaaBa
import Derived.Test.YtjdkpogkhecijaaFc
import Derived.IntWalk
import Derived.Test.YtjdkpogkhecijaaProg
import Derived.Test.YtjdkpogkhecijaaLs
import Derived.Outline
import Derived.StillTailTactics
import Derived.Deep.DeepCutAuto
import Derived.Deep.CutBlock
import Derived.Deep.LoopGhost
import Derived.Deep.QuietTactic
import Derived.BigQuiet
import Derived.Deep.RegionHeld3
import Derived.Deep.RegionLaw
set_option linter.unusedVariables false
set_option linter.unusedSimpArgs false
namespace Go.Proofs.Ytjdkpogkhecijaa
open Go.RowKit
/-! ### Open -/
def OS (w0 : World) (R : List HP) (x : List Int × Int × Int) (e : Ending) (w' : World) : Prop := ∃ A c, e = .returned (.tuple #[.slice A x.1.length c, .int .i64 x.2.1, .int .i64 x.2.2]) ∧ Hs w0 w' (Ls U8 5 (.slice A x.1.length c) x.1 :: R)
def opS (b : List Int) : List Int × Int × Int :=
  if 8 ≤ b.length ∧ val (b.take 4) ≤ 1048576 ∧ val (b.take 4) ≤ ((b.drop 8).length : Int) ∧ (crc ((b.drop 8).take (valN (b.take 4))) : Int) = val ((b.drop 4).take 4) then ((b.drop 8).take (valN (b.take 4)), 8 + val (b.take 4), 0) else ([], 0, 11)
theorem opS_short {b : List Int} (h : b.length < 8) : opS b = ([], 0, 11) := if_neg fun h2 => by omega
theorem opS_big {b : List Int} (h : 1048576 < val (b.take 4)) : opS b = ([], 0, 11) := if_neg fun h2 => by omega
theorem opS_torn {b : List Int} (h : ((b.drop 8).length : Int) < val (b.take 4)) : opS b = ([], 0, 11) := if_neg fun h2 => by omega
theorem opS_sum {b : List Int} (h : (crc ((b.drop 8).take (valN (b.take 4))) : Int) ≠ val ((b.drop 4).take 4)) : opS b = ([], 0, 11) := if_neg fun h2 => h h2.2.2.2
theorem opS_ok {b : List Int} (h : 8 ≤ b.length) (h1 : val (b.take 4) ≤ 1048576) (h2 : val (b.take 4) ≤ ((b.drop 8).length : Int)) (h3 : (crc ((b.drop 8).take (valN (b.take 4))) : Int) = val ((b.drop 4).take 4)) : opS b = ((b.drop 8).take (valN (b.take 4)), 8 + val (b.take 4), 0) := if_pos ⟨h, h1, h2, h3⟩
theorem rnum_in {k : Nat} {s : List Int} {bad : Bool} (h : k ≤ s.length) : rnum k (s, bad) = (val (s.take k), (s.drop k, bad)) := by unfold rnum rtk; rw [if_pos h]
theorem rnumR_in {k : Nat} {s : List Int} (h : k ≤ s.length) : rnumR k (s, false) = (val (s.take k), (s.drop k, false)) := by unfold rnumR; rw [if_pos ⟨rfl, h⟩]
theorem val4 {s : List Int} (h : Byt s) (hl : 4 ≤ s.length) : 0 ≤ val (s.take 4) ∧ val (s.take 4) < 4294967296 := by
  have h1 := val_lt _ (h.take 4)
  rw [show (s.take 4).length = 4 by rw [List.length_take]; omega] at h1
  exact ⟨val_nonneg _, h1⟩
set_option maxRecDepth 100000 in
set_option maxHeartbeats 4000000 in
theorem open16 (v : Value) (b : List Int) (w w0 : World) (R : List HP) (H : Hs w0 w R) (hr : ∀ w', Hs w0 w' R → RdL U8 w' v b) (hb : Byt b) (hl : b.length ≤ 100000000) : Calls Try.prog 16 #[v] w (OS w0 R (opS b)) := by
  obtain ⟨A0, cb, hv⟩ := (hr w H).form
  subst hv
  obtain ⟨nb, hnb⟩ : ∃ n, b.length = n := ⟨_, rfl⟩
  rw [hnb] at hr hl ⊢
  have hcb := (hr w H).caps.2
  have hr0 := Lib.hid hr
  have hb0 := Lib.hid hb
  by_cases h8 : nb < 8
  · rw [opS_short (by omega)]
    have d1 : decide ((nb : Int) < 8) = true := by rw [decide_eq_true_eq]; omega
    have d2 : decide (nb < 8) = true := by rw [decide_eq_true_eq]; omega
    have K := Lib.hid H
    clear H hr hb
    go_enter Try.func16, Try.ntmps16
    go_wp2_with fail
    go_ret3
    exact ⟨none, 0, rfl, K.out.ls_nil _ _⟩
  · have h4 : 4 ≤ b.length := by omega
    have h44 : 4 ≤ (b.drop 4).length := by rw [List.length_drop]; omega
    have hs1 := rnum_in h4 (bad := false)
    have hs2 := rnum_in h44 (bad := false)
    rw [List.drop_drop] at hs2
    have v1 := val4 hb h4
    have v2 := val4 (hb.drop 4) h44
    have hb1 := Lib.hid (hb.drop 4)
    have hb2 := Lib.hid (hb.drop 8)
    have hnl : (b.drop 8).length = nb - 8 := by rw [List.length_drop, hnb]
    have hsv : val (b.take 4) = ((valN (b.take 4) : Nat) : Int) := rfl
    have o1 := @opS_big b
    have o2 := @opS_torn b
    have o3 := @opS_sum b
    have o4 := @opS_ok b (by omega)
    rw [hnl] at o2 o4
    rw [hsv] at hs1 v1 o1 o2 o4
    obtain ⟨m, hm⟩ : ∃ m, valN (b.take 4) = m := ⟨_, rfl⟩
    obtain ⟨x, hx⟩ : ∃ x, val ((b.drop 4).take 4) = x := ⟨_, rfl⟩
    rw [hm] at hs1 v1 o1 o2 o3 o4
    rw [hx] at hs2 v2 o3 o4
    obtain ⟨d, hd⟩ : ∃ d, b.drop 8 = d := ⟨_, rfl⟩
    obtain ⟨c1, hc1⟩ : ∃ d, b.drop 4 = d := ⟨_, rfl⟩
    rw [hc1] at hs1 hs2 hb1
    rw [show 4 + 4 = 8 from rfl, hd] at hs2
    rw [hd] at hb2 hnl o3 o4
    obtain ⟨N, hN⟩ : ∃ N, nb - 8 = N := ⟨_, rfl⟩
    rw [hN] at hnl o2 o4
    obtain ⟨v10, v11⟩ := v1
    obtain ⟨v20, v21⟩ := v2
    replace hs1 := Lib.hid hs1
    replace hs2 := Lib.hid hs2
    replace hnl := Lib.hid hnl
    replace o1 := Lib.hid o1
    replace o2 := Lib.hid o2
    replace o3 := Lib.hid o3
    replace o4 := Lib.hid o4
    have d1 : decide ((nb : Int) < 8) = false := by rw [decide_eq_false_iff_not]; omega
    have d2 : decide (nb < 8) = false := by rw [decide_eq_false_iff_not]; omega
    have hNb : N ≤ 100000000 := by omega
    obtain ⟨X, hX⟩ : ∃ X, opS b = X := ⟨_, rfl⟩
    rw [hX] at o1 o2 o3 o4
    rw [hX]
    have K := Lib.hid (H.alloc (.cells #[.slice A0 nb cb, .bool false] 90))
    clear H hr hb h4 h44 hX hm hsv hN hd hx hc1
    go_enter Try.func16, Try.ntmps16
    go_upto_region 4 with (fail)
    generalize World.alloc _ _ = w1 at K ⊢
    generalize w.heap.size = p at K ⊢
    go_wp2_with fail
    refine (number42 p (.slice A0 nb cb) b false 4 (by omega) _ w0 _ K.out hr0.out hb0.out).mono ?_
    rintro e w2 ⟨u2, rfl, hrd, K2⟩
    rw [hs1.out] at hrd K2 ⊢
    have hV : Hid (∀ w', Hs w0 w' R → RdL U8 w' u2 c1) := fun w' h => hrd w' (hr0.out w' h)
    replace K2 := Lib.hid K2
    clear hrd K
    go_wp2_with fail
    refine (number42 p u2 c1 false 4 (by omega) _ w0 _ K2.out hV.out hb1.out).mono ?_
    rintro e w3 ⟨u3, rfl, hrd, K3⟩
    rw [hs2.out] at hrd K3 ⊢
    have hV3 : Hid (∀ w', Hs w0 w' R → RdL U8 w' u3 d) := fun w' h => hrd w' (hV.out w' h)
    clear hrd K2 hV
    obtain ⟨A3, c3, hv3⟩ := (hV3.out w3 K3.tail).form
    subst hv3
    rw [hnl.out] at hV3 K3
    have hc3 := (hV3.out w3 K3.tail).caps.2
    replace K3 := Lib.hid K3
    have p0 : w3.cell? ⟨p, 0, none⟩ = some (.slice A3 N c3) := K3.out.cellOf 0 rfl
    have p1 : w3.cell? ⟨p, 1, none⟩ = some (.bool false) := K3.out.cellOf 1 rfl
    clear d1 d2
    by_cases hbig : 1048576 < m
    · obtain rfl := o1.out (by omega)
      have e1 : decide ((1048576 : Int) < (m : Int)) = true := by rw [decide_eq_true_eq]; omega
      have e2 : decide (1048576 < m) = true := by rw [decide_eq_true_eq]; omega
      clear o1 o2 o3 o4
      go_wp2_with fail
      go_ret3
      exact ⟨none, 0, rfl, K3.out.tail.ls_nil _ _⟩
    have hb2m : m ≤ 1048576 := by omega
    have e1 : decide ((1048576 : Int) < (m : Int)) = false := by rw [decide_eq_false_iff_not]; omega
    have e2 : decide (1048576 < m) = false := by rw [decide_eq_false_iff_not]; omega
    by_cases htorn : N < m
    · obtain rfl := o2.out (by omega)
      have f1 : decide ((N : Int) < (m : Int)) = true := by rw [decide_eq_true_eq]; omega
      have f2 : decide (N < m) = true := by rw [decide_eq_true_eq]; omega
      clear o1 o2 o3 o4
      go_wp2_with fail
      go_ret3
      exact ⟨none, 0, rfl, K3.out.tail.ls_nil _ _⟩
    have hmN : m ≤ N := by omega
    have f1 : decide ((N : Int) < (m : Int)) = false := by rw [decide_eq_false_iff_not]; omega
    have f2 : decide (N < m) = false := by rw [decide_eq_false_iff_not]; omega
    have ct := cut_take Try.prog 22 5 1 Try.underlying22 (by kernel_rfl) A3 N c3 m (by omega)
    have hT : Hid (∀ w', Hs w0 w' R → RdL U8 w' (.slice A3 m c3) (d.take m)) := fun w' h => (hV3.out w' h).take m hmN
    have hTl : Hid ((d.take m).length = m) := by show _ = _; rw [List.length_take, hnl.out]; omega
    have hTb : Hid (Byt (d.take m)) := hb2.out.take m
    have hcl : crc (d.take m) < 4294967296 := crc_lt hTb.out
    obtain ⟨T, hTT⟩ : ∃ T, d.take m = T := ⟨_, rfl⟩
    rw [hTT] at hT hTl hTb hcl o3 o4
    replace hTT := Lib.hid hTT
    obtain ⟨cr, hcr⟩ : ∃ x, crc T = x := ⟨_, rfl⟩
    rw [hcr] at o3 o4 hcl
    replace hcr := Lib.hid hcr
    have hm64 : (m : Int) ≤ 1048576 := by omega
    go_wp2_with fail
    refine (sum14 (.slice A3 m c3) T w3 w0 _ K3.out (fun w' h => hT.out w' h.tail) hTb.out (by rw [hTl.out]; omega)).mono ?_
    rintro e w4 ⟨rfl, K4⟩
    rw [hcr.out]
    replace K4 := Lib.hid K4
    clear p0 p1 K3
    by_cases hsum : (cr : Int) = x
    · obtain rfl := o4.out (by omega) (by omega) hsum
      have hne : ((cr : Int) != x) = false := by rw [hsum]; simp
      have p0 : w4.cell? ⟨p, 0, none⟩ = some (.slice A3 N c3) := K4.out.cellOf 0 rfl
      clear o1 o2 o3 o4 hsum
      go_wp2_with fail
      refine (clone43 (.slice A3 m c3) T w4 w0 _ K4.out.tail (hT.out _ K4.out.tail) (by rw [hTl.out]; omega)).mono ?_
      rintro e w5 ⟨A5, c5, rfl, K5⟩
      replace K5 := Lib.hid K5
      clear K4 p0
      have hw8 : IntKind.i64.wrap (8 + (m : Int)) = 8 + (m : Int) := IntWalk.i64_in _ (by omega)
      go_wp2_with fail
      go_ret3
      exact ⟨A5, c5, rfl, K5.out⟩
    · obtain rfl := o3.out hsum
      have hne : ((cr : Int) != x) = true := by simpa using hsum
      clear o1 o2 o3 o4 hsum
      go_wp2_with fail
      go_ret3
      exact ⟨none, 0, rfl, K4.out.tail.ls_nil _ _⟩
set_option maxRecDepth 100000 in
set_option maxHeartbeats 4000000 in
theorem ropen39 (v : Value) (b : List Int) (w w0 : World) (R : List HP) (H : Hs w0 w R) (hr : ∀ w', Hs w0 w' R → RdL U8 w' v b) (hb : Byt b) (hl : b.length ≤ 100000000) : Calls Try.prog 39 #[v] w (OS w0 R (opS b)) := by
  obtain ⟨A0, cb, hv⟩ := (hr w H).form
  subst hv
  obtain ⟨nb, hnb⟩ : ∃ n, b.length = n := ⟨_, rfl⟩
  rw [hnb] at hr hl ⊢
  have hcb := (hr w H).caps.2
  have hr0 := Lib.hid hr
  have hb0 := Lib.hid hb
  by_cases h8 : nb < 8
  · rw [opS_short (by omega)]
    have K := Lib.hid (H.alloc (.cells #[.slice A0 nb cb, .bool false] 131))
    obtain ⟨⟨x1, b1, bad1⟩, hs1⟩ : ∃ x, rnumR 4 (b, false) = x := ⟨_, rfl⟩
    obtain ⟨⟨x2, b2, bad2⟩, hs2⟩ : ∃ x, rnumR 4 (b1, bad1) = x := ⟨_, rfl⟩
    have hb1 : Hid (Byt b1) := by have := (good_num 4).bytR (b, false) hb; rw [hs1] at this; exact this
    have hbad : bad2 = true := by
      by_cases h4 : 4 ≤ b.length
      · rw [rnumR_in h4] at hs1
        injection hs1 with h1 h2
        injection h2 with h3 h5
        subst h3
        subst h5
        unfold rnumR at hs2
        rw [if_neg (fun h => by have := h.2; rw [List.length_drop] at this; omega)] at hs2
        injection hs2 with h1 h2
        injection h2 with h3 h5
        exact h5.symm
      · unfold rnumR at hs1
        rw [if_neg (fun h => h4 h.2)] at hs1
        injection hs1 with h1 h2
        injection h2 with h3 h5
        have := (good_num 4).staysR (b1, bad1) h5.symm
        rw [hs2] at this
        exact this
    subst hbad
    replace hs1 := Lib.hid hs1
    replace hs2 := Lib.hid hs2
    clear H hr hb
    go_enter Try.func39, Try.ntmps39
    go_upto_region 2 with (fail)
    generalize World.alloc _ _ = w1 at K ⊢
    generalize w.heap.size = p at K ⊢
    go_wp2_with fail
    refine (num74 p (.slice A0 nb cb) b false 4 (by omega) _ w0 _ K.out hr0.out hb0.out).mono ?_
    rintro e w2 ⟨v2, rfl, hrd, K2⟩
    rw [hs1.out] at hrd K2 ⊢
    have hV : Hid (∀ w', Hs w0 w' R → RdL U8 w' v2 b1) := fun w' h => hrd w' (hr0.out w' h)
    replace K2 := Lib.hid K2
    clear hrd K
    go_wp2_with fail
    refine (num74 p v2 b1 bad1 4 (by omega) _ w0 _ K2.out hV.out hb1.out).mono ?_
    rintro e w3 ⟨v3, rfl, hrd, K3⟩
    rw [hs2.out] at hrd K3 ⊢
    have x1 : w3.cell? ⟨p, 1, none⟩ = some (.bool true) := K3.cellOf 1 rfl
    replace K3 := Lib.hid K3
    clear hrd K2
    go_wp2_with fail
    go_ret3
    exact ⟨none, 0, rfl, K3.out.tail.ls_nil _ _⟩
  · have h4 : 4 ≤ b.length := by omega
    have h44 : 4 ≤ (b.drop 4).length := by rw [List.length_drop]; omega
    have hs1 := rnumR_in h4
    have hs2 := rnumR_in h44
    rw [List.drop_drop] at hs2
    have v1 := val4 hb h4
    have v2 := val4 (hb.drop 4) h44
    have hb1 := Lib.hid (hb.drop 4)
    have hb2 := Lib.hid (hb.drop 8)
    have hnl : (b.drop 8).length = nb - 8 := by rw [List.length_drop, hnb]
    have hsv : val (b.take 4) = ((valN (b.take 4) : Nat) : Int) := rfl
    have o1 := @opS_big b
    have o2 := @opS_torn b
    have o3 := @opS_sum b
    have o4 := @opS_ok b (by omega)
    rw [hnl] at o2 o4
    rw [hsv] at hs1 v1 o1 o2 o4
    obtain ⟨m, hm⟩ : ∃ m, valN (b.take 4) = m := ⟨_, rfl⟩
    obtain ⟨x, hx⟩ : ∃ x, val ((b.drop 4).take 4) = x := ⟨_, rfl⟩
    rw [hm] at hs1 v1 o1 o2 o3 o4
    rw [hx] at hs2 v2 o3 o4
    obtain ⟨d, hd⟩ : ∃ d, b.drop 8 = d := ⟨_, rfl⟩
    obtain ⟨c1, hc1⟩ : ∃ d, b.drop 4 = d := ⟨_, rfl⟩
    rw [hc1] at hs1 hs2 hb1
    rw [show 4 + 4 = 8 from rfl, hd] at hs2
    rw [hd] at hb2 hnl o3 o4
    obtain ⟨N, hN⟩ : ∃ N, nb - 8 = N := ⟨_, rfl⟩
    rw [hN] at hnl o2 o4
    obtain ⟨v10, v11⟩ := v1
    obtain ⟨v20, v21⟩ := v2
    replace hs1 := Lib.hid hs1
    replace hs2 := Lib.hid hs2
    replace hnl := Lib.hid hnl
    replace o1 := Lib.hid o1
    replace o2 := Lib.hid o2
    replace o3 := Lib.hid o3
    replace o4 := Lib.hid o4
    have d1 : decide ((nb : Int) < 8) = false := by rw [decide_eq_false_iff_not]; omega
    have d2 : decide (nb < 8) = false := by rw [decide_eq_false_iff_not]; omega
    have hNb : N ≤ 100000000 := by omega
    obtain ⟨X, hX⟩ : ∃ X, opS b = X := ⟨_, rfl⟩
    rw [hX] at o1 o2 o3 o4
    rw [hX]
    have K := Lib.hid (H.alloc (.cells #[.slice A0 nb cb, .bool false] 131))
    clear H hr hb h4 h44 hX hm hsv hN hd hx hc1
    go_enter Try.func39, Try.ntmps39
    go_upto_region 2 with (fail)
    generalize World.alloc _ _ = w1 at K ⊢
    generalize w.heap.size = p at K ⊢
    go_wp2_with fail
    refine (num74 p (.slice A0 nb cb) b false 4 (by omega) _ w0 _ K.out hr0.out hb0.out).mono ?_
    rintro e w2 ⟨u2, rfl, hrd, K2⟩
    rw [hs1.out] at hrd K2 ⊢
    have hV : Hid (∀ w', Hs w0 w' R → RdL U8 w' u2 c1) := fun w' h => hrd w' (hr0.out w' h)
    replace K2 := Lib.hid K2
    clear hrd K
    go_wp2_with fail
    refine (num74 p u2 c1 false 4 (by omega) _ w0 _ K2.out hV.out hb1.out).mono ?_
    rintro e w3 ⟨u3, rfl, hrd, K3⟩
    rw [hs2.out] at hrd K3 ⊢
    have hV3 : Hid (∀ w', Hs w0 w' R → RdL U8 w' u3 d) := fun w' h => hrd w' (hV.out w' h)
    clear hrd K2 hV
    obtain ⟨A3, c3, hv3⟩ := (hV3.out w3 K3.tail).form
    subst hv3
    rw [hnl.out] at hV3 K3
    have hc3 := (hV3.out w3 K3.tail).caps.2
    replace K3 := Lib.hid K3
    have p0 : w3.cell? ⟨p, 0, none⟩ = some (.slice A3 N c3) := K3.out.cellOf 0 rfl
    have p1 : w3.cell? ⟨p, 1, none⟩ = some (.bool false) := K3.out.cellOf 1 rfl
    clear d1 d2
    by_cases hbig : 1048576 < m
    · obtain rfl := o1.out (by omega)
      have e1 : decide ((1048576 : Int) < (m : Int)) = true := by rw [decide_eq_true_eq]; omega
      have e2 : decide (1048576 < m) = true := by rw [decide_eq_true_eq]; omega
      clear o1 o2 o3 o4
      go_wp2_with fail
      go_ret3
      exact ⟨none, 0, rfl, K3.out.tail.ls_nil _ _⟩
    have hb2m : m ≤ 1048576 := by omega
    have e1 : decide ((1048576 : Int) < (m : Int)) = false := by rw [decide_eq_false_iff_not]; omega
    have e2 : decide (1048576 < m) = false := by rw [decide_eq_false_iff_not]; omega
    by_cases htorn : N < m
    · obtain rfl := o2.out (by omega)
      have f1 : decide ((N : Int) < (m : Int)) = true := by rw [decide_eq_true_eq]; omega
      have f2 : decide (N < m) = true := by rw [decide_eq_true_eq]; omega
      clear o1 o2 o3 o4
      go_wp2_with fail
      go_ret3
      exact ⟨none, 0, rfl, K3.out.tail.ls_nil _ _⟩
    have hmN : m ≤ N := by omega
    have f1 : decide ((N : Int) < (m : Int)) = false := by rw [decide_eq_false_iff_not]; omega
    have f2 : decide (N < m) = false := by rw [decide_eq_false_iff_not]; omega
    have ct := cut_take Try.prog 22 5 1 Try.underlying22 (by kernel_rfl) A3 N c3 m (by omega)
    have hT : Hid (∀ w', Hs w0 w' R → RdL U8 w' (.slice A3 m c3) (d.take m)) := fun w' h => (hV3.out w' h).take m hmN
    have hTl : Hid ((d.take m).length = m) := by show _ = _; rw [List.length_take, hnl.out]; omega
    have hTb : Hid (Byt (d.take m)) := hb2.out.take m
    have hcl : crc (d.take m) < 4294967296 := crc_lt hTb.out
    obtain ⟨T, hTT⟩ : ∃ T, d.take m = T := ⟨_, rfl⟩
    rw [hTT] at hT hTl hTb hcl o3 o4
    replace hTT := Lib.hid hTT
    obtain ⟨cr, hcr⟩ : ∃ x, crc T = x := ⟨_, rfl⟩
    rw [hcr] at o3 o4 hcl
    replace hcr := Lib.hid hcr
    have hm64 : (m : Int) ≤ 1048576 := by omega
    go_wp2_with fail
    refine (sum15 (.slice A3 m c3) T w3 (hT.out w3 K3.out.tail) hTb.out (by rw [hTl.out]; omega)).mono ?_
    rintro e w4 ⟨rfl, rfl⟩
    have K4 := K3.out
    rw [hcr.out]
    replace K4 := Lib.hid K4
    clear p0 p1 K3
    by_cases hsum : (cr : Int) = x
    · obtain rfl := o4.out (by omega) (by omega) hsum
      have hne : ((cr : Int) != x) = false := by rw [hsum]; simp
      have p0 : w3.cell? ⟨p, 0, none⟩ = some (.slice A3 N c3) := K4.out.cellOf 0 rfl
      clear o1 o2 o3 o4 hsum
      have KN := Lib.hid (K4.out.tail.ls_nil U8 5)
      have hw8 : IntKind.i64.wrap ((m : Int) + 8) = (m : Int) + 8 := IntWalk.i64_in _ (by omega)
      go_wp2_with (at_builtin; refine wpList_appendN m rfl (.const (.slice none 0 0)) (.tmp 50) 22 rfl 5 _ 1 1 Try.underlying22 infoB8 rfl (by decide) (by decide) rfl rfl _ rfl KN.out (hT.out _ K4.out.tail) (by omega) (by rw [hTl.out]; simp) ?_)
      intro A5 c5 w5 K5
      replace K5 := Lib.hid K5
      clear K4 p0 KN
      go_wp2_with fail
      go_ret3
      dsimp only
      refine ⟨A5, c5, ?_, by rw [hTl.out]; exact K5.out⟩
      rw [hTl.out, Int.add_comm 8]
      rfl
    · obtain rfl := o3.out hsum
      have hne : ((cr : Int) != x) = true := by simpa using hsum
      clear o1 o2 o3 o4 hsum
      go_wp2_with fail
      go_ret3
      exact ⟨none, 0, rfl, K4.out.tail.ls_nil _ _⟩
end Go.Proofs.Ytjdkpogkhecijaa

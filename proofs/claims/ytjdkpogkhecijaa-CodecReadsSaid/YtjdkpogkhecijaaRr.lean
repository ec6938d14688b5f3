import Derived.Test.YtjdkpogkhecijaaMd
import Derived.IntWalk
import Derived.Test.YtjdkpogkhecijaaProg
import Derived.Test.YtjdkpogkhecijaaLs
import Derived.Outline
import Derived.StillTailTactics
import Derived.Deep.DeepCutAuto
import Derived.Deep.CutBlock
import Derived.Deep.LoopGhost
import Derived.Deep.QuietTactic
import Derived.BigQuiet
import Derived.Deep.RegionHeld3
import Derived.Deep.RegionLaw
set_option linter.unusedVariables false
set_option linter.unusedSimpArgs false
namespace Go.Proofs.Ytjdkpogkhecijaa
open Go.RowKit
set_option maxRecDepth 100000 in
set_option maxHeartbeats 800000 in
theorem take65 (p : Nat) (v : Value) (bs : List Int) (bad : Bool) (k : Nat) (w w0 : World) (R : List HP) (H : Hs w0 w (Blk p (.cells #[v, .bool bad] 90) :: R)) (hr : RdL U8 w v bs) :
    Calls Try.prog 65 #[.pointer (some ⟨p, 0, none⟩), .int .i64 k] w fun e w' => ∃ v1 v2, e = .returned v1 ∧ (∀ W, RdL U8 W v bs → RdL U8 W v1 (rtk k (bs, bad)).1 ∧ RdL U8 W v2 (rtk k (bs, bad)).2.1) ∧ Hs w0 w' (Blk p (.cells #[v2, .bool (rtk k (bs, bad)).2.2] 90) :: R) := by
  obtain ⟨A, c, rfl⟩ := hr.form
  have hc := hr.caps.2
  obtain ⟨n, hn⟩ : ∃ n, bs.length = n := ⟨_, rfl⟩
  rw [hn] at hr hc H ⊢
  have p0 : w.cell? ⟨p, 0, none⟩ = some (.slice A n c) := H.cellOf 0 rfl
  have p1 : w.cell? ⟨p, 1, none⟩ = some (.bool bad) := H.cellOf 1 rfl
  have f0 := H.frozenOf 0
  have f1 := H.frozenOf 1
  rcases Nat.lt_or_ge n k with hk | hk
  · have h0 : decide ((n : Int) < (k : Int)) = true := by rw [decide_eq_true_eq]; omega
    have h1 : decide (n < k) = true := by rw [decide_eq_true_eq]; omega
    have e1 : rtk k (bs, bad) = ([], (bs, true)) := by unfold rtk; rw [if_neg (by show ¬ k ≤ bs.length; omega)]
    have H2 := Lib.hid (H.setCell (i := 1) (.bool true))
    rw [e1]
    replace hn := Lib.hid hn
    replace hr := Lib.hid hr
    clear e1 H
    go_enter Try.func65, Try.ntmps65
    go_wp2_with fail
    go_ret
    exact ⟨_, _, rfl, fun W h => ⟨RdL.nil W, h⟩, H2.out⟩
  · have h0 : decide ((n : Int) < (k : Int)) = false := by rw [decide_eq_false_iff_not]; omega
    have h1 : decide (n < k) = false := by rw [decide_eq_false_iff_not]; omega
    have e1 : rtk k (bs, bad) = (bs.take k, (bs.drop k, bad)) := by unfold rtk; rw [if_pos (by show k ≤ bs.length; omega)]
    have ct := cut_take Try.prog 22 5 1 Try.underlying22 (by kernel_rfl) A n c k (by omega)
    obtain ⟨A2, hA2, cd⟩ := cut_drop Try.prog 22 5 1 Try.underlying22 (by kernel_rfl) A n c k hk
    have H2 := Lib.hid (H.setCell (i := 0) (.slice A2 (n - k) (c - k)))
    rw [e1]
    replace hn := Lib.hid hn
    replace hr := Lib.hid hr
    clear e1 H
    go_enter Try.func65, Try.ntmps65
    go_wp2_with fail
    go_ret
    exact ⟨_, _, rfl, fun W h => ⟨h.take k hk, h.dropA hk rfl hA2⟩, H2.out⟩
set_option maxRecDepth 100000 in
set_option maxHeartbeats 800000 in
theorem number42 (p : Nat) (v : Value) (bs : List Int) (bad : Bool) (k : Nat) (hk : k ≤ 8) (w w0 : World) (R : List HP) (H : Hs w0 w (Blk p (.cells #[v, .bool bad] 90) :: R)) (hr : ∀ w', Hs w0 w' R → RdL U8 w' v bs) (hb : Byt bs) :
    Calls Try.prog 42 #[.pointer (some ⟨p, 0, none⟩), .int .i64 k] w (RdPost v bs p 90 w0 R (.int .u64 (rnum k (bs, bad)).1) (rnum k (bs, bad)).2) := by
  have hl := (rtk_len k (bs, bad)).1
  have hb2 := (rtk_byt (k := k) (s := (bs, bad)) hb).1
  have T := take65 p v bs bad k w w0 R H (hr w H.tail)
  unfold rnum
  obtain ⟨ys, hys⟩ : ∃ ys, (rtk k (bs, bad)).1 = ys := ⟨_, rfl⟩
  obtain ⟨s2, hs2⟩ : ∃ s, (rtk k (bs, bad)).2 = s := ⟨_, rfl⟩
  rw [hys] at hl hb2 T ⊢
  rw [hs2] at T ⊢
  replace T := Lib.hid T
  replace hr := Lib.hid hr
  clear hys hs2 H hb
  go_enter Try.func42, Try.ntmps42
  go_wp2_with fail
  refine T.out.mono ?_
  rintro e w1 ⟨v1, v2, rfl, hrd, K⟩
  have hy := (hrd w1 (hr.out w1 K.tail)).1
  obtain ⟨A, c, rfl⟩ := hy.form
  have hc := hy.caps.2
  obtain ⟨n, hn⟩ : ∃ n, ys.length = n := ⟨_, rfl⟩
  rw [hn] at hy hc hl hrd ⊢
  replace hy := Lib.hid hy
  replace hrd := Lib.hid hrd
  replace hb2 := Lib.hid hb2
  replace K := Lib.hid K
  replace hn := Lib.hid hn
  clear T
  go_wp2_with fail
  go_loop [5, 12] (fun xv iv => ∃ i x : Nat, i ≤ n ∧ iv = .int .i64 i ∧ xv = .int .u64 x ∧ Hid (valN (ys.take i) = x)) (fun _ iv => n - (intOf iv).toNat)
  case atStart => exact ⟨0, 0, Nat.zero_le _, rfl, rfl, Lib.hid rfl⟩
  case round =>
    obtain ⟨i, x, hin, rfl, rfl, hx⟩ := hrel
    rcases Nat.lt_or_ge i n with hlt | hlt
    · have hi0 : (0 : Int) ≤ (i : Int) := by omega
      have hi1 : (i : Int) < (n : Int) := by omega
      obtain ⟨y, hyi⟩ : ∃ y, ys[i]? = some y := ⟨_, List.getElem?_eq_getElem (by have := hn.out; omega)⟩
      have hy2 := hb2.out y (List.mem_of_getElem? hyi)
      obtain ⟨yn, rfl⟩ := Int.eq_ofNat_of_zero_le hy2.1
      obtain ⟨g, off, rfl⟩ := hy.out.some_ (by have := hn.out; omega)
      have s0 : w1.cell? ⟨g, off + i, none⟩ = some (.int .u8 yn) := by have := hy.out.cell hyi 0 rfl; simpa [Enc.num] using this
      have hx1 : x < 72057594037927936 := by
        have h1 := valN_lt (ys.take i) (hb2.out.take i)
        rw [hx.out] at h1
        have h2 : (ys.take i).length ≤ 7 := by rw [List.length_take]; omega
        have h3 : 256 ^ (ys.take i).length ≤ 256 ^ 7 := Nat.pow_le_pow_right (by omega) h2
        omega
      have hx2 : Hid (valN (ys.take (i + 1)) = x * 256 + yn) := by show _ = _; rw [take_one hyi, valN_snoc, hx.out, Int.toNat_natCast]
      have hy3 : yn < 256 := by omega
      have e1 : bits .or .u64 ((x : Int) * 256) (yn : Int) = ((x * 256 + yn : Nat) : Int) := by
        have := u64_or_nat (x * 256) yn (by omega) (by omega)
        rw [nat_join 8 (x * 256) yn (by omega) (by omega)] at this
        exact this
      clear hyi hy2
      go_wp2_with fail
      go_round
      case measure => simp [intOf]; omega
      case rel => exact ⟨i + 1, x * 256 + yn, by omega, by go_num, by go_num, hx2⟩
    · have hi1 : decide ((i : Int) < (n : Int)) = false := by rw [decide_eq_false_iff_not]; omega
      have hi2 : decide (i < n) = false := by rw [decide_eq_false_iff_not]; omega
      have hx2 : val ys = (x : Int) := by unfold val; rw [← hx.out, List.take_of_length_le (by have := hn.out; omega)]
      replace hx2 := Lib.hid hx2
      clear hlt
      go_wp2_with fail
      go_ret
      exact ⟨_, by rw [hx2.out]; rfl, fun W h => (hrd.out W h).2, K.out⟩
set_option maxRecDepth 100000 in
set_option maxHeartbeats 800000 in
theorem long67 (p : Nat) (v : Value) (bs : List Int) (bad : Bool) (w w0 : World) (R : List HP) (H : Hs w0 w (Blk p (.cells #[v, .bool bad] 90) :: R)) (hr : ∀ w', Hs w0 w' R → RdL U8 w' v bs) (hb : Byt bs) :
    Calls Try.prog 67 #[.pointer (some ⟨p, 0, none⟩)] w (RdPost v bs p 90 w0 R (.int .i64 (lng 8 (bs, bad)).1) (lng 8 (bs, bad)).2) := by
  have T := number42 p v bs bad 8 (by omega) w w0 R H hr hb
  have hv : 0 ≤ (rnum 8 (bs, bad)).1 := Int.natCast_nonneg _
  unfold lng
  obtain ⟨x, hx⟩ : ∃ x, (rnum 8 (bs, bad)).1 = x := ⟨_, rfl⟩
  obtain ⟨s2, hs2⟩ : ∃ s, (rnum 8 (bs, bad)).2 = s := ⟨_, rfl⟩
  rw [hx] at T hv ⊢
  rw [hs2] at T ⊢
  replace T := Lib.hid T
  clear hx hs2 H hr hb
  go_enter Try.func67, Try.ntmps67
  go_wp2_with fail
  refine T.out.mono ?_
  rintro e w1 ⟨v2, rfl, hrd, K⟩
  replace hrd := Lib.hid hrd
  replace K := Lib.hid K
  clear T
  go_wp2_with fail
  go_ret
  exact ⟨_, rfl, hrd.out, K.out⟩
set_option maxRecDepth 100000 in
set_option maxHeartbeats 800000 in
theorem num74 (p : Nat) (v : Value) (bs : List Int) (bad : Bool) (k : Nat) (hk : k ≤ 8) (w w0 : World) (R : List HP) (H : Hs w0 w (Blk p (.cells #[v, .bool bad] 131) :: R)) (hr : ∀ w', Hs w0 w' R → RdL U8 w' v bs) (hb : Byt bs) :
    Calls Try.prog 74 #[.pointer (some ⟨p, 0, none⟩), .int .i64 k] w (RdPost v bs p 131 w0 R (.int .u64 (rnumR k (bs, bad)).1) (rnumR k (bs, bad)).2) := by
  have hr0 := hr w H.tail
  obtain ⟨A, c, rfl⟩ := hr0.form
  have hc := hr0.caps.2
  obtain ⟨n, hn⟩ : ∃ n, bs.length = n := ⟨_, rfl⟩
  rw [hn] at hr hr0 hc H ⊢
  have p0 : w.cell? ⟨p, 0, none⟩ = some (.slice A n c) := H.cellOf 0 rfl
  have p1 : w.cell? ⟨p, 1, none⟩ = some (.bool bad) := H.cellOf 1 rfl
  have f1 := H.frozenOf 1
  by_cases hno : bad = true ∨ n < k
  · have e1 : rnumR k (bs, bad) = (0, (bs, true)) := by
      unfold rnumR
      rw [if_neg]
      show ¬ (bad = false ∧ k ≤ bs.length)
      rintro ⟨h1, h2⟩
      rcases hno with h | h
      · rw [h] at h1; cases h1
      · omega
    have H2 := Lib.hid (H.setCell (i := 1) (.bool true))
    rw [e1]
    replace hn := Lib.hid hn
    replace hr := Lib.hid hr
    clear e1 H hr0
    rcases hno with rfl | h
    · go_enter Try.func74, Try.ntmps74
      go_wp2_with fail
      go_ret
      exact ⟨_, rfl, fun W h => h, H2.out⟩
    · have h0 : decide ((n : Int) < (k : Int)) = true := by rw [decide_eq_true_eq]; omega
      have h1 : decide (n < k) = true := by rw [decide_eq_true_eq]; omega
      cases bad <;> (go_enter Try.func74, Try.ntmps74; go_wp2_with fail; go_ret; exact ⟨_, rfl, fun W h => h, H2.out⟩)
  · have hnk : k ≤ n := by omega
    obtain rfl : bad = false := by cases bad with | false => rfl | true => exact absurd (.inl rfl) hno
    have e1 : rnumR k (bs, false) = (val (bs.take k), (bs.drop k, false)) := by unfold rnumR; rw [if_pos ⟨rfl, by show k ≤ bs.length; omega⟩]
    have h0 : decide ((n : Int) < (k : Int)) = false := by rw [decide_eq_false_iff_not]; omega
    have h1 : decide (n < k) = false := by rw [decide_eq_false_iff_not]; omega
    obtain ⟨A2, hA2, cd⟩ := cut_drop Try.prog 22 5 1 Try.underlying22 (by kernel_rfl) A n c k hnk
    have H2 := Lib.hid (H.setCell (i := 0) (.slice A2 (n - k) (c - k)))
    have f0 := H.frozenOf 0
    rw [e1]
    replace hn := Lib.hid hn
    replace hr := Lib.hid hr
    replace hr0 := Lib.hid hr0
    replace hb := Lib.hid hb
    clear e1 H hno
    go_enter Try.func74, Try.ntmps74
    go_wp2_with fail
    go_loop [5, 6] (fun xv iv => ∃ i x : Nat, i ≤ k ∧ iv = .int .i64 i ∧ xv = .int .u64 x ∧ Hid (valN (bs.take i) = x)) (fun _ iv => k - (intOf iv).toNat)
    case atStart => exact ⟨0, 0, Nat.zero_le _, rfl, rfl, Lib.hid rfl⟩
    case round =>
      obtain ⟨i, x, hin, rfl, rfl, hx⟩ := hrel
      rcases Nat.lt_or_ge i k with hlt | hlt
      · have hi0 : (0 : Int) ≤ (i : Int) := by omega
        have hi1 : (i : Int) < (n : Int) := by omega
        have hi2 : (i : Int) < (k : Int) := by omega
        obtain ⟨y, hyi⟩ : ∃ y, bs[i]? = some y := ⟨_, List.getElem?_eq_getElem (by have := hn.out; omega)⟩
        have hy2 := hb.out y (List.mem_of_getElem? hyi)
        obtain ⟨yn, rfl⟩ := Int.eq_ofNat_of_zero_le hy2.1
        obtain ⟨g, off, rfl⟩ := hr0.out.some_ (by have := hn.out; omega)
        have s0 : w.cell? ⟨g, off + i, none⟩ = some (.int .u8 yn) := by have := hr0.out.cell hyi 0 rfl; simpa [Enc.num] using this
        have hx1 : x < 72057594037927936 := by
          have h1 := valN_lt (bs.take i) (hb.out.take i)
          rw [hx.out] at h1
          have h2 : (bs.take i).length ≤ 7 := by rw [List.length_take]; omega
          have h3 : 256 ^ (bs.take i).length ≤ 256 ^ 7 := Nat.pow_le_pow_right (by omega) h2
          omega
        have hx2 : Hid (valN (bs.take (i + 1)) = x * 256 + yn) := by show _ = _; rw [take_one hyi, valN_snoc, hx.out, Int.toNat_natCast]
        have hy3 : yn < 256 := by omega
        have e1 : bits .or .u64 ((x : Int) * 256) (yn : Int) = ((x * 256 + yn : Nat) : Int) := by
          have := u64_or_nat (x * 256) yn (by omega) (by omega)
          rw [nat_join 8 (x * 256) yn (by omega) (by omega)] at this
          exact this
        clear hyi hy2
        go_wp2_with fail
        go_round
        case measure => simp [intOf]; omega
        case rel => exact ⟨i + 1, x * 256 + yn, by omega, by go_num, by go_num, hx2⟩
      · have hi1 : decide ((i : Int) < (k : Int)) = false := by rw [decide_eq_false_iff_not]; omega
        have hi2 : decide (i < k) = false := by rw [decide_eq_false_iff_not]; omega
        obtain rfl : i = k := by omega
        clear hlt
        go_wp2_with fail
        go_ret
        exact ⟨.slice A2 (n - i) (c - i), by unfold val; rw [hx.out]; rfl, fun W h => h.dropA hnk rfl hA2, H2.out⟩
end Go.Proofs.Ytjdkpogkhecijaa

import Derived.Test.YtjdkpogkhecijaaCr
import Derived.IntWalk
import Derived.Test.YtjdkpogkhecijaaProg
import Derived.Test.YtjdkpogkhecijaaLs
import Derived.Outline
import Derived.StillTailTactics
import Derived.Deep.DeepCutAuto
import Derived.Deep.CutBlock
import Derived.Deep.LoopGhost
import Derived.Deep.QuietTactic
import Derived.BigQuiet
import Derived.Deep.RegionHeld3
import Derived.Deep.RegionLaw
set_option linter.unusedVariables false
set_option linter.unusedSimpArgs false
namespace Go.Proofs.Ytjdkpogkhecijaa
open Go.RowKit
set_option maxRecDepth 100000 in
set_option maxHeartbeats 800000 in
theorem sum15 (v : Value) (bs : List Int) (w : World) (hr : RdL U8 w v bs) (hb : Byt bs) (hl : bs.length ≤ 1000000000) :
    Calls Try.prog 15 #[v] w fun e w' => e = .returned (.int .u32 (crc bs)) ∧ w = w' := by
  obtain ⟨A, c, rfl⟩ := hr.form
  have hc := hr.caps.2
  obtain ⟨n, hn⟩ : ∃ n, bs.length = n := ⟨_, rfl⟩
  rw [hn] at hr hl hc ⊢
  replace hr := Lib.hid hr
  replace hn := Lib.hid hn
  replace hb := Lib.hid hb
  go_enter Try.func15, Try.ntmps15
  go_wp2_with fail
  go_loop [3, 4] (fun cv iv => ∃ i c : Nat, i ≤ n ∧ iv = .int .i64 i ∧ cv = .int .u32 c ∧ Hid (crcS (bs.take i) = c) ∧ c < 4294967296) (fun _ iv => n - (intOf iv).toNat)
  case atStart => exact ⟨0, 4294967295, Nat.zero_le _, rfl, rfl, Lib.hid rfl, by omega⟩
  case round =>
    obtain ⟨i, c2, hin, rfl, rfl, hS, hc32⟩ := hrel
    rcases Nat.lt_or_ge i n with hlt | hlt
    · have hi0 : (0 : Int) ≤ (i : Int) := by omega
      have hi1 : (i : Int) < (n : Int) := by omega
      obtain ⟨x, hx⟩ : ∃ x, bs[i]? = some x := ⟨_, List.getElem?_eq_getElem (by have := hn.out; omega)⟩
      have hx2 := hb.out x (List.mem_of_getElem? hx)
      obtain ⟨xn, rfl⟩ := Int.eq_ofNat_of_zero_le hx2.1
      obtain ⟨g, off, rfl⟩ := hr.out.some_ (by have := hn.out; omega)
      have s0 : w.cell? ⟨g, off + i, none⟩ = some (.int .u8 xn) := by have := hr.out.cell hx 0 rfl; simpa [Enc.num] using this
      have hx3 : xn < 256 := by omega
      replace hx := Lib.hid hx
      clear hx2
      have e1 : bits .xor .u32 (c2 : Int) (xn : Int) = ((c2 ^^^ xn : Nat) : Int) := u32_xor_nat c2 xn hc32 (by omega)
      have hc0 : c2 ^^^ xn < 4294967296 := Nat.xor_lt_two_pow (n := 32) hc32 (by omega)
      have hfin : Hid (crcS (bs.take (i + 1)) = itr 8 (c2 ^^^ xn)) := by show _ = _; rw [take_one hx.out, crcS_snoc, hS.out, Int.toNat_natCast]; rfl
      go_wp2_with fail
      clear e1
      generalize c2 ^^^ xn = c0 at hc0 hfin ⊢
      go_loop [3, 5] (fun cv kv => ∃ k c : Nat, k ≤ 8 ∧ kv = .int .i64 k ∧ cv = .int .u32 c ∧ Hid (itr (8 - k) c = itr 8 c0) ∧ c < 4294967296) (fun _ kv => 8 - (intOf kv).toNat)
      case atStart => exact ⟨0, c0, Nat.zero_le _, rfl, rfl, Lib.hid rfl, hc0⟩
      case round =>
        obtain ⟨k, c, hk8, rfl, rfl, hI, hc⟩ := hrel
        rcases Nat.lt_or_ge k 8 with hk | hk
        · have hk1 : (k : Int) < 8 := by omega
          have hI2 : Hid (itr (8 - (k + 1)) (stp c) = itr 8 c0) := by show _ = _; rw [← hI.out, show 8 - k = (8 - (k + 1)) + 1 by omega]; rfl
          have hs := stp_lt c hc
          have hand := u32_and_nat c 1 hc (by omega)
          rw [nat_mask1] at hand
          rcases Nat.mod_two_eq_zero_or_one c with h2 | h2
          · have e2 : bits .and .u32 (c : Int) 1 = 0 := by rw [h2] at hand; exact hand
            have e3 : (c : Int) / 2 = ((stp c : Nat) : Int) := by rw [stp_no h2]; omega
            clear hand h2
            replace e3 := Lib.hid e3
            go_wp2_with fail
            rw [e3.out]
            clear e2 e3
            go_round
            case measure => simp [intOf]; omega
            case rel => exact ⟨k + 1, stp c, by omega, by go_num, rfl, hI2, hs⟩
          · have e2 : bits .and .u32 (c : Int) 1 = 1 := by rw [h2] at hand; exact hand
            have e3 : bits .xor .u32 ((c : Int) / 2) 3988292384 = ((stp c : Nat) : Int) := by
              rw [stp_yes h2]
              have := u32_xor_nat (c / 2) 3988292384 (by omega) (by omega)
              rw [← this]
              rfl
            clear hand h2
            replace e3 := Lib.hid e3
            go_wp2_with fail
            rw [e3.out]
            clear e2 e3
            go_round
            case measure => simp [intOf]; omega
            case rel => exact ⟨k + 1, stp c, by omega, by go_num, rfl, hI2, hs⟩
        · have hk1 : decide ((k : Int) < 8) = false := by rw [decide_eq_false_iff_not]; omega
          have hk2 : decide (k < 8) = false := by rw [decide_eq_false_iff_not]; omega
          obtain rfl : k = 8 := by omega
          have hI3 : Hid (crcS (bs.take (i + 1)) = c) := by show _ = _; rw [hfin.out]; exact hI.out.symm
          clear hk
          go_wp2_with fail
          go_round
          case measure => simp [intOf]; omega
          case rel => exact ⟨i + 1, c, by omega, by go_num, rfl, hI3, hc⟩
    · have hi1 : decide ((i : Int) < (n : Int)) = false := by rw [decide_eq_false_iff_not]; omega
      have hi2 : decide (i < n) = false := by rw [decide_eq_false_iff_not]; omega
      have hS2 : Hid (crcS bs = c2) := by have := hS.out; rwa [List.take_of_length_le (by have := hn.out; omega)] at this
      have hnot := Lib.hid (u32_flip c2 hc32)
      clear hlt
      go_wp2_with fail
      all_goals (go_ret; exact ⟨by unfold crc; rw [hS2.out]; first | exact congrArg (fun x => Ending.returned (.int .u32 x)) hnot.out | (exfalso; rename_i h; revert h; decide), rfl⟩)
end Go.Proofs.Ytjdkpogkhecijaa

import Derived.Test.YtjdkpogkhecijaaCr
import Derived.IntWalk
import Derived.Test.YtjdkpogkhecijaaProg
import Derived.Test.YtjdkpogkhecijaaLs
import Derived.Outline
import Derived.StillTailTactics
import Derived.Deep.DeepCutAuto
import Derived.Deep.CutBlock
import Derived.Deep.LoopGhost
import Derived.Deep.QuietTactic
import Derived.BigQuiet
import Derived.Deep.RegionHeld3
import Derived.Deep.RegionLaw
set_option linter.unusedVariables false
set_option linter.unusedSimpArgs false
namespace Go.Proofs.Ytjdkpogkhecijaa
open Go.RowKit
set_option maxRecDepth 100000 in
set_option maxHeartbeats 800000 in
theorem sum15 (v : Value) (bs : List Int) (w : World) (hr : RdL U8 w v bs) (hb : Byt bs) (hl : bs.length ≤ 1000000000) :
    Calls Try.prog 15 #[v] w fun e w' => e = .returned (.int .u32 (crc bs)) ∧ w = w' := by
  obtain ⟨A, c, rfl⟩ := hr.form
  have hc := hr.caps.2
  obtain ⟨n, hn⟩ : ∃ n, bs.length = n := ⟨_, rfl⟩
  rw [hn] at hr hl hc ⊢
  replace hr := Lib.hid hr
  replace hn := Lib.hid hn
  replace hb := Lib.hid hb
  go_enter Try.func15, Try.ntmps15
  go_wp2_with fail
  go_loop [3, 4] (fun cv iv => ∃ i c : Nat, i ≤ n ∧ iv = .int .i64 i ∧ cv = .int .u32 c ∧ Hid (crcS (bs.take i) = c) ∧ c < 4294967296) (fun _ iv => n - (intOf iv).toNat)
  case atStart => exact ⟨0, 4294967295, Nat.zero_le _, rfl, rfl, Lib.hid rfl, by omega⟩
  case round =>
    obtain ⟨i, c2, hin, rfl, rfl, hS, hc32⟩ := hrel
    rcases Nat.lt_or_ge i n with hlt | hlt
    · have hi0 : (0 : Int) ≤ (i : Int) := by omega
      have hi1 : (i : Int) < (n : Int) := by omega
      obtain ⟨x, hx⟩ : ∃ x, bs[i]? = some x := ⟨_, List.getElem?_eq_getElem (by have := hn.out; omega)⟩
      have hx2 := hb.out x (List.mem_of_getElem? hx)
      obtain ⟨xn, rfl⟩ := Int.eq_ofNat_of_zero_le hx2.1
      obtain ⟨g, off, rfl⟩ := hr.out.some_ (by have := hn.out; omega)
      have s0 : w.cell? ⟨g, off + i, none⟩ = some (.int .u8 xn) := by have := hr.out.cell hx 0 rfl; simpa [Enc.num] using this
      have hx3 : xn < 256 := by omega
      replace hx := Lib.hid hx
      clear hx2
      have e1 : bits .xor .u32 (c2 : Int) (xn : Int) = ((c2 ^^^ xn : Nat) : Int) := u32_xor_nat c2 xn hc32 (by omega)
      have hc0 : c2 ^^^ xn < 4294967296 := Nat.xor_lt_two_pow (n := 32) hc32 (by omega)
      have hfin : Hid (crcS (bs.take (i + 1)) = itr 8 (c2 ^^^ xn)) := by show _ = _; rw [take_one hx.out, crcS_snoc, hS.out, Int.toNat_natCast]; rfl
      go_wp2_with fail
      clear e1
      generalize c2 ^^^ xn = c0 at hc0 hfin ⊢
      go_loop [3, 5] (fun cv kv => ∃ k c : Nat, k ≤ 8 ∧ kv = .int .i64 k ∧ cv = .int .u32 c ∧ Hid (itr (8 - k) c = itr 8 c0) ∧ c < 4294967296) (fun _ kv => 8 - (intOf kv).toNat)
      case atStart => exact ⟨0, c0, Nat.zero_le _, rfl, rfl, Lib.hid rfl, hc0⟩
      case round =>
        obtain ⟨k, c, hk8, rfl, rfl, hI, hc⟩ := hrel
        rcases Nat.lt_or_ge k 8 with hk | hk
        · have hk1 : (k : Int) < 8 := by omega
          have hI2 : Hid (itr (8 - (k + 1)) (stp c) = itr 8 c0) := by show _ = _; rw [← hI.out, show 8 - k = (8 - (k + 1)) + 1 by omega]; rfl
          have hs := stp_lt c hc
          have hand := u32_and_nat c 1 hc (by omega)
          rw [nat_mask1] at hand
          rcases Nat.mod_two_eq_zero_or_one c with h2 | h2
          · have e2 : bits .and .u32 (c : Int) 1 = 0 := by rw [h2] at hand; exact hand
            have e3 : (c : Int) / 2 = ((stp c : Nat) : Int) := by rw [stp_no h2]; omega
            clear hand h2
            replace e3 := Lib.hid e3
            go_wp2_with fail
            rw [e3.out]
            clear e2 e3
            go_round
            case measure => simp [intOf]; omega
            case rel => exact ⟨k + 1, stp c, by omega, by go_num, rfl, hI2, hs⟩
          · have e2 : bits .and .u32 (c : Int) 1 = 1 := by rw [h2] at hand; exact hand
            have e3 : bits .xor .u32 ((c : Int) / 2) 3988292384 = ((stp c : Nat) : Int) := by
              rw [stp_yes h2]
              have := u32_xor_nat (c / 2) 3988292384 (by omega) (by omega)
              rw [← this]
              rfl
            clear hand h2
            replace e3 := Lib.hid e3
            go_wp2_with fail
            rw [e3.out]
            clear e2 e3
            go_round
            case measure => simp [intOf]; omega
            case rel => exact ⟨k + 1, stp c, by omega, by go_num, rfl, hI2, hs⟩
        · have hk1 : decide ((k : Int) < 8) = false := by rw [decide_eq_false_iff_not]; omega
          have hk2 : decide (k < 8) = false := by rw [decide_eq_false_iff_not]; omega
          obtain rfl : k = 8 := by omega
          have hI3 : Hid (crcS (bs.take (i + 1)) = c) := by show _ = _; rw [hfin.out]; exact hI.out.symm
          clear hk
          go_wp2_with fail
          go_round
          case measure => simp [intOf]; omega
          case rel => exact ⟨i + 1, c, by omega, by go_num, rfl, hI3, hc⟩
    · have hi1 : decide ((i : Int) < (n : Int)) = false := by rw [decide_eq_false_iff_not]; omega
      have hi2 : decide (i < n) = false := by rw [decide_eq_false_iff_not]; omega
      have hS2 : Hid (crcS bs = c2) := by have := hS.out; rwa [List.take_of_length_le (by have := hn.out; omega)] at this
      have hnot := Lib.hid (u32_flip c2 hc32)
      clear hlt
      go_wp2_with fail
      all_goals (go_ret; exact ⟨by unfold crc; rw [hS2.out]; first | exact congrArg (fun x => Ending.returned (.int .u32 x)) hnot.out | (exfalso; rename_i h; revert h; decide), rfl⟩)
def tabv (T : List Nat) : Array Value := (T.map fun x : Nat => Value.int .u32 x).toArray
theorem tabv_get {T : List Nat} {i c : Nat} (h : T[i]? = some c) : (tabv T)[i]? = some (.int .u32 c) := by unfold tabv; simp [h]
theorem tabv_set (T : List Nat) (i c : Nat) : (tabv T).setIfInBounds i (.int .u32 c) = tabv (T.set i c) := by unfold tabv; rw [List.map_set, List.setIfInBounds_toArray]
def Tab (i : Nat) (T : List Nat) : Prop := T.length = 16 ∧ ∀ k, k < i → T[k]? = some (stp4 k)
theorem Tab.set {i : Nat} {T : List Nat} (h : Tab i T) (c : Nat) : Tab i (T.set i c) := ⟨by rw [List.length_set]; exact h.1, fun k hk => by rw [List.getElem?_set, if_neg (by omega)]; exact h.2 k hk⟩
theorem Tab.next {i : Nat} {T : List Nat} (h : Tab i T) (hc : T[i]? = some (stp4 i)) : Tab (i + 1) T := ⟨h.1, fun k hk => by
  by_cases e : k = i
  · rw [e]; exact hc
  · exact h.2 k (by omega)⟩
set_option maxRecDepth 100000 in
set_option maxHeartbeats 1600000 in
theorem sum14 (v : Value) (bs : List Int) (w w0 : World) (R : List HP) (H : Hs w0 w R) (hr : ∀ w', Hs w0 w' R → RdL U8 w' v bs) (hb : Byt bs) (hl : bs.length ≤ 1000000000) :
    Calls Try.prog 14 #[v] w fun e w' => e = .returned (.int .u32 (crc bs)) ∧ Hs w0 w' R := by
  obtain ⟨A, c, rfl⟩ := (hr w H).form
  have hc := (hr w H).caps.2
  obtain ⟨n, hn⟩ : ∃ n, bs.length = n := ⟨_, rfl⟩
  rw [hn] at hr hl hc ⊢
  have K : Hs w0 (w.alloc (.cells #[.int .u32 0, .int .u32 0, .int .u32 0, .int .u32 0, .int .u32 0, .int .u32 0, .int .u32 0, .int .u32 0, .int .u32 0, .int .u32 0, .int .u32 0, .int .u32 0, .int .u32 0, .int .u32 0, .int .u32 0, .int .u32 0] 86)) (Blk w.heap.size (.cells (tabv (List.replicate 16 0)) 86) :: R) := H.alloc (.cells #[.int .u32 0, .int .u32 0, .int .u32 0, .int .u32 0, .int .u32 0, .int .u32 0, .int .u32 0, .int .u32 0, .int .u32 0, .int .u32 0, .int .u32 0, .int .u32 0, .int .u32 0, .int .u32 0, .int .u32 0, .int .u32 0] 86)
  replace hr := Lib.hid hr
  replace hn := Lib.hid hn
  replace hb := Lib.hid hb
  replace K := Lib.hid K
  clear H
  go_enter Try.func14, Try.ntmps14
  go_upto_region 2 with (fail)
  generalize World.alloc w _ = w1 at K ⊢
  generalize w.heap.size = p at K ⊢
  go_wp2_with fail
  go_loopg [8] 16 (fun g iv wr => ∃ (i : Nat) (T : List Nat), g + i = 16 ∧ iv = .int .u32 i ∧ Hid (Tab i T) ∧ Hid (Hs w0 wr (Blk p (.cells (tabv T) 86) :: R)))
  case atStart => exact ⟨0, _, rfl, rfl, ⟨List.length_replicate, fun k hk => by omega⟩, K⟩
  case round =>
    clear K
    obtain ⟨i, T, hg, rfl, hT, K⟩ := hrel
    have hi16 : i ≤ 16 := by omega
    replace hg := Lib.hid hg
    rcases Nat.lt_or_ge i 16 with hi | hi
    · have hi0 : (0 : Int) ≤ (i : Int) := by omega
      have hi1 : (i : Int) < 16 := by omega
      obtain ⟨u, hu⟩ : ∃ u, T[i]? = some u := ⟨_, List.getElem?_eq_getElem (by rw [hT.out.1]; exact hi)⟩
      have f0 := K.out.frozenOf i
      have d0 : wr.cell? ⟨p, i, none⟩ = some (.int .u32 u) := K.out.cellOf i (tabv_get hu)
      have K2 := K.out.setCell (i := i) (.int .u32 i)
      rw [tabv_set] at K2
      replace K2 := Lib.hid K2
      have hT2 := Lib.hid (hT.out.set i)
      have hTi : Hid ((T.set i i)[i]? = some i) := by show _ = _; rw [List.getElem?_set, if_pos rfl, if_pos (by rw [hT.out.1]; exact hi)]
      clear hu K hT
      go_upto_region 6 with (fail)
      clear f0 d0
      generalize World.setCell wr _ _ = w2 at K2 ⊢
      go_wp2_with fail
      generalize T.set i i = T2 at K2 hT2 hTi
      go_loopg [14] 4 (fun g kv wr => ∃ (k c : Nat) (T : List Nat), g + k = 4 ∧ kv = .int .i64 k ∧ c < 4294967296 ∧ Hid (T[i]? = some c) ∧ Hid (itr (4 - k) c = stp4 i) ∧ Hid (Tab i T) ∧ Hid (Hs w0 wr (Blk p (.cells (tabv T) 86) :: R)))
      case atStart => exact ⟨0, i, T2, rfl, rfl, by omega, hTi, Lib.hid rfl, hT2, K2⟩
      case round =>
        clear K2 hT2 hTi
        obtain ⟨k, c, T, hgk, rfl, hc32, hTi, hI, hT, K⟩ := hrel
        have hk4 : k ≤ 4 := by omega
        replace hgk := Lib.hid hgk
        rcases Nat.lt_or_ge k 4 with hk | hk
        · have hk1 : (k : Int) < 4 := by omega
          have hI2 : Hid (itr (4 - (k + 1)) (stp c) = stp4 i) := by show _ = _; rw [← hI.out, show 4 - k = (4 - (k + 1)) + 1 by omega]; rfl
          have hs := stp_lt c hc32
          have d0 : wr.cell? ⟨p, i, none⟩ = some (.int .u32 c) := K.out.cellOf i (tabv_get hTi.out)
          have SS : Hid (∀ w', Hs w0 w' (Blk p (.cells (tabv T) 86) :: R) → w'.cell? ⟨p, i, none⟩ = some (.int .u32 c)) := fun w' h => h.cellOf i (tabv_get hTi.out)
          have hand := u32_and_nat c 1 hc32 (by omega)
          rw [nat_mask1] at hand
          have KQ := Lib.hid K.out
          have hT2 := Lib.hid (hT.out.set (stp c))
          have hTi2 : Hid ((T.set i (stp c))[i]? = some (stp c)) := by show _ = _; rw [List.getElem?_set, if_pos rfl, if_pos (by rw [hT.out.1]; exact hi)]
          clear K hT hTi
          obtain ⟨q, hq⟩ : ∃ q : Int, IntKind.u32.wrap (3988292384 * bits .and .u32 (c : Int) 1) = q := ⟨_, rfl⟩
          have hx : Hid (bits .xor .u32 ((c : Int) / 2) q = ((stp c : Nat) : Int)) := by
            show _ = _
            rw [← hq]
            rcases Nat.mod_two_eq_zero_or_one c with h2 | h2
            · rw [h2] at hand
              rw [show bits .and .u32 (c : Int) 1 = 0 from hand, stp_no h2]
              have := u32_xor_nat (c / 2) 0 (by omega) (by omega)
              rw [Nat.xor_zero] at this
              rw [← this]
              rfl
            · rw [h2] at hand
              rw [show bits .and .u32 (c : Int) 1 = 1 from hand, stp_yes h2]
              have := u32_xor_nat (c / 2) 3988292384 (by omega) (by omega)
              rw [← this]
              rfl
          clear hand
          go_upto_region 8 with (fail)
          clear d0
          refine wp_region_left (S := fun w' : World => w'.cell? ⟨p, i, none⟩ = some (.int .u32 c)) 12 mixed ?_
          have hS : (fun w' : World => w'.cell? ⟨p, i, none⟩ = some (.int .u32 c)) wr.drew := by exact SS.out _ KQ.out.drew
          refine Left.pure (i := 0) (v := ?v8_0) rfl (by kernel_rfl) (fun _ _ _ h => h) (Or.inr hS) (Or.inl ⟨by kernel_rfl, fun w _ => ?hy8_0⟩) ?rest8_0
          case hy8_0 => (go_simp; try with_reducible rfl)
          try simp only [Act.put, List.setIfInBounds_toArray, List.set_cons_zero, List.set_cons_succ]
          refine Left.pure (i := 1) (v := ?v8_1) rfl (by kernel_rfl) (fun _ _ _ h => h) (Or.inr hS) (Or.inl ⟨by kernel_rfl, fun w _ => ?hy8_1⟩) ?rest8_1
          case hy8_1 => (go_simp; try with_reducible rfl)
          try simp only [Act.put, List.setIfInBounds_toArray, List.set_cons_zero, List.set_cons_succ]
          refine Left.pure (i := 2) (v := ?v8_2) rfl (by kernel_rfl) (fun _ _ _ h => h) (Or.inr hS) (Or.inl ⟨by kernel_rfl, fun w _ => ?hy8_2⟩) ?rest8_2
          case hy8_2 => (go_simp; try with_reducible rfl)
          try simp only [Act.put, List.setIfInBounds_toArray, List.set_cons_zero, List.set_cons_succ]
          refine Left.take (i := 3) (v := ?v8_3) rfl (by kernel_rfl) (fun _ _ _ h => h) hS (Or.inl ⟨by kernel_rfl, fun w hSw => ?hy8_3⟩) ?rest8_3
          case hy8_3 => ((try dsimp only at hSw); go_simp; try with_reducible rfl)
          try simp only [Act.put, List.setIfInBounds_toArray, List.set_cons_zero, List.set_cons_succ]
          refine Left.pure (i := 4) (v := ?v8_4) rfl (by kernel_rfl) (fun _ _ _ h => h) (Or.inr hS) (Or.inl ⟨by kernel_rfl, fun w _ => ?hy8_4⟩) ?rest8_4
          case hy8_4 => (go_simp; try with_reducible rfl)
          try simp only [Act.put, List.setIfInBounds_toArray, List.set_cons_zero, List.set_cons_succ]
          refine Left.pure (i := 5) (v := ?v8_5) rfl (by kernel_rfl) (fun _ _ _ h => h) (Or.inr hS) (Or.inl ⟨by kernel_rfl, fun w _ => ?hy8_5⟩) ?rest8_5
          case hy8_5 => (go_simp; try with_reducible rfl)
          try simp only [Act.put, List.setIfInBounds_toArray, List.set_cons_zero, List.set_cons_succ]
          refine Left.pure (i := 6) (v := ?v8_6) rfl (by kernel_rfl) (fun _ _ _ h => h) (Or.inr hS) (Or.inl ⟨by kernel_rfl, fun w _ => ?hy8_6⟩) ?rest8_6
          case hy8_6 => (go_simp; try with_reducible rfl)
          try simp only [Act.put, List.setIfInBounds_toArray, List.set_cons_zero, List.set_cons_succ]
          refine Left.take (i := 7) (v := ?v8_7) rfl (by kernel_rfl) (fun _ _ _ h => h) hS (Or.inl ⟨by kernel_rfl, fun w hSw => ?hy8_7⟩) ?rest8_7
          case hy8_7 => ((try dsimp only at hSw); go_simp; try with_reducible rfl)
          try simp only [Act.put, List.setIfInBounds_toArray, List.set_cons_zero, List.set_cons_succ]
          refine Left.pure (i := 8) (v := ?v8_8) rfl (by kernel_rfl) (fun _ _ _ h => h) (Or.inr hS) (Or.inl ⟨by kernel_rfl, fun w _ => ?hy8_8⟩) ?rest8_8
          case hy8_8 => (go_simp; try with_reducible rfl)
          try simp only [Act.put, List.setIfInBounds_toArray, List.set_cons_zero, List.set_cons_succ]
          refine Left.pure (i := 9) (v := ?v8_9) rfl (by kernel_rfl) (fun _ _ _ h => h) (Or.inr hS) (Or.inl ⟨by kernel_rfl, fun w _ => ?hy8_9⟩) ?rest8_9
          case hy8_9 => (go_simp; try with_reducible rfl)
          try simp only [Act.put, List.setIfInBounds_toArray, List.set_cons_zero, List.set_cons_succ]
          refine Left.pure (i := 10) (v := ?v8_10) rfl (by kernel_rfl) (fun _ _ _ h => h) (Or.inr hS) (Or.inl ⟨by kernel_rfl, fun w _ => ?hy8_10⟩) ?rest8_10
          case hy8_10 => (go_simp; try with_reducible rfl)
          try simp only [Act.put, List.setIfInBounds_toArray, List.set_cons_zero, List.set_cons_succ]
          refine Left.pure (i := 11) (v := ?v8_11) rfl (by kernel_rfl) (fun _ _ _ h => h) (Or.inr hS) (Or.inl ⟨by kernel_rfl, fun w _ => ?hy8_11⟩) ?rest8_11
          case hy8_11 => (go_simp; try with_reducible rfl)
          try simp only [Act.put, List.setIfInBounds_toArray, List.set_cons_zero, List.set_cons_succ]
          refine Left.run (i := 12) rfl (by kernel_rfl) (fun K hK => ?_)
          have f0 := KQ.out.drew.frozenOf i
          have d0 := SS.out _ KQ.out.drew
          go_simp
          refine hK.out _ _ (Or.inl (by kernel_rfl)) ?_
          clear hK K
          try simp only [Act.put, List.setIfInBounds_toArray, List.set_cons_zero, List.set_cons_succ]
          refine Left.done (by kernel_rfl) ?_ _
          have K3 := KQ.out.setCell (i := i) (.int .u32 ((stp c : Nat) : Int))
          rw [tabv_set] at K3
          replace K3 := Lib.hid K3.drew
          clear SS KQ hq
          go_wp2_with fail
          rw [hx.out]
          generalize World.drew _ = w3 at K3 ⊢
          go_roundg (4 - (k + 1))
          case measure => have := hgk.out; omega
          case rel => exact ⟨k + 1, stp c, T.set i (stp c), by have := hgk.out; omega, by go_num, hs, hTi2, hI2, hT2, K3⟩
        · have hk1 : decide ((k : Int) < 4) = false := by rw [decide_eq_false_iff_not]; omega
          have hk2 : decide (k < 4) = false := by rw [decide_eq_false_iff_not]; omega
          have hT3 : Hid (Tab (i + 1) T) := hT.out.next (by
            rw [hTi.out]
            have := hI.out
            rw [show 4 - k = 0 by omega] at this
            exact congrArg some this)
          have hwi : IntKind.u32.wrap ((i : Int) + 1) = ((i + 1 : Nat) : Int) := by rw [IntKind.wrap_u32']; omega
          clear hk
          go_wp2_with fail
          go_roundg (16 - (i + 1))
          case measure => have := hg.out; omega
          case rel => exact ⟨i + 1, T, by have := hg.out; omega, by first | rfl | go_num | rw [hwi], hT3, K⟩
    · have hi1 : decide ((i : Int) < 16) = false := by rw [decide_eq_false_iff_not]; omega
      have hi2 : decide (i < 16) = false := by rw [decide_eq_false_iff_not]; omega
      obtain rfl : i = 16 := by omega
      clear hi
      go_wp2_with fail
      go_loopg [32, 5] n (fun g iv cv wr => ∃ i c : Nat, g + i = n ∧ iv = .int .i64 i ∧ cv = .int .u32 c ∧ Hid (crcS (bs.take i) = c) ∧ c < 4294967296 ∧ Hid (Hs w0 wr (Blk p (.cells (tabv T) 86) :: R)))
      case atStart => exact ⟨0, 4294967295, rfl, rfl, rfl, Lib.hid rfl, by omega, K⟩
      case round =>
        clear K
        obtain ⟨i, c0, hgi, rfl, rfl, hS, hc32, K⟩ := hrel
        have hin : i ≤ n := by omega
        replace hgi := Lib.hid hgi
        rcases Nat.lt_or_ge i n with hlt | hlt
        · have hi0 : (0 : Int) ≤ (i : Int) := by omega
          have hi1 : (i : Int) < (n : Int) := by omega
          obtain ⟨x, hx⟩ : ∃ x, bs[i]? = some x := ⟨_, List.getElem?_eq_getElem (by have := hn.out; omega)⟩
          have hx2 := hb.out x (List.mem_of_getElem? hx)
          obtain ⟨xn, rfl⟩ := Int.eq_ofNat_of_zero_le hx2.1
          obtain ⟨g, off, rfl⟩ := (hr.out _ K.out.tail).some_ (by have := hn.out; omega)
          have s0 : wr.cell? ⟨g, off + i, none⟩ = some (.int .u8 xn) := by have := (hr.out _ K.out.tail).cell hx 0 rfl; simpa [Enc.num] using this
          have hx3 : xn < 256 := by omega
          have e1 : bits .xor .u32 (c0 : Int) (xn : Int) = ((c0 ^^^ xn : Nat) : Int) := u32_xor_nat c0 xn hc32 (by omega)
          have hc1 : c0 ^^^ xn < 4294967296 := Nat.xor_lt_two_pow (n := 32) hc32 (by omega)
          have hfin : Hid (crcS (bs.take (i + 1)) = stp8 (c0 ^^^ xn)) := by show _ = _; rw [take_one hx, crcS_snoc, hS.out, Int.toNat_natCast]
          generalize c0 ^^^ xn = c1 at e1 hc1 hfin
          obtain ⟨m1, hm1⟩ : ∃ m, c1 % 16 = m := ⟨_, rfl⟩
          obtain ⟨m2, hm2⟩ : ∃ m, stp4 c1 % 16 = m := ⟨_, rfl⟩
          have hc2 := stp4_lt c1 hc1
          have hc3 := stp4_lt _ hc2
          have e2 : bits .and .u32 (c1 : Int) 15 = (m1 : Int) := by have := u32_and_nat c1 15 hc1 (by omega); rw [nat_mask4, hm1] at this; exact this
          have e3 : bits .xor .u32 ((c1 : Int) / 16) ((stp4 m1 : Nat) : Int) = ((stp4 c1 : Nat) : Int) := by
            have := u32_xor_nat (c1 / 16) (stp4 m1) (by omega) (stp4_lt _ (by omega))
            rw [← hm1, ← stp4_tab] at this
            rw [← this, ← hm1]
            rfl
          have e4 : bits .and .u32 ((stp4 c1 : Nat) : Int) 15 = (m2 : Int) := by have := u32_and_nat (stp4 c1) 15 hc2 (by omega); rw [nat_mask4, hm2] at this; exact this
          have e5 : bits .xor .u32 (((stp4 c1 : Nat) : Int) / 16) ((stp4 m2 : Nat) : Int) = ((stp4 (stp4 c1) : Nat) : Int) := by
            have := u32_xor_nat (stp4 c1 / 16) (stp4 m2) (by omega) (stp4_lt _ (by omega))
            rw [← hm2, ← stp4_tab] at this
            rw [← this, ← hm2]
            rfl
          have a1 : m1 < 16 := by omega
          have a2 : m2 < 16 := by omega
          have t1 : wr.cell? ⟨p, m1, none⟩ = some (.int .u32 ((stp4 m1 : Nat) : Int)) := K.out.cellOf m1 (tabv_get (hT.out.2 m1 a1))
          have t2 : wr.cell? ⟨p, m2, none⟩ = some (.int .u32 ((stp4 m2 : Nat) : Int)) := K.out.cellOf m2 (tabv_get (hT.out.2 m2 a2))
          have a3 : (m1 : Int) < 16 := by omega
          have a4 : (m2 : Int) < 16 := by omega
          have hfin2 : Hid (crcS (bs.take (i + 1)) = stp4 (stp4 c1)) := hfin
          have hwi : IntKind.i64.wrap ((i : Int) + 1) = ((i + 1 : Nat) : Int) := by rw [IntWalk.i64_in _ (by omega)]; omega
          clear hm1 hm2 hx hx2 hfin
          generalize stp4 (stp4 c1) = c3 at e5 hc3 hfin2
          generalize stp4 c1 = c2 at *
          generalize stp4 m1 = y1 at *
          generalize stp4 m2 = y2 at *
          go_wp2_with fail
          go_roundg (n - (i + 1))
          case measure => have := hgi.out; omega
          case rel => exact ⟨i + 1, c3, by have := hgi.out; omega, by go_num, rfl, hfin2, hc3, K⟩
        · have hi1 : decide ((i : Int) < (n : Int)) = false := by rw [decide_eq_false_iff_not]; omega
          have hi2 : decide (i < n) = false := by rw [decide_eq_false_iff_not]; omega
          have hS2 : Hid (crcS bs = c0) := by have := hS.out; rwa [List.take_of_length_le (by have := hn.out; omega)] at this
          have hnot := Lib.hid (u32_flip c0 hc32)
          clear hlt
          go_wp2_with fail
          all_goals (go_ret; exact ⟨by unfold crc; rw [hS2.out]; first | exact congrArg (fun x => Ending.returned (.int .u32 x)) hnot.out | (exfalso; rename_i h; revert h; decide), K.out.tail⟩)
end Go.Proofs.Ytjdkpogkhecijaa

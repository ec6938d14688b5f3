import Derived.Test.YtjdkpogkhecijaaMx
import Derived.Test.YtjdkpogkhecijaaFc
import Derived.Test.YtjdkpogkhecijaaWh
import Derived.IntWalk
import Derived.Test.YtjdkpogkhecijaaProg
import Derived.Test.YtjdkpogkhecijaaLs
import Derived.Outline
import Derived.StillTailTactics
import Derived.Deep.DeepCutAuto
import Derived.Deep.CutBlock
import Derived.Deep.LoopGhost
import Derived.Deep.QuietTactic
import Derived.BigQuiet
import Derived.Deep.RegionHeld3
import Derived.Deep.RegionLaw
set_option linter.unusedVariables false
set_option linter.unusedSimpArgs false
namespace Go.Proofs.Ytjdkpogkhecijaa
open Go.RowKit
/-! ### a name is read -/
def rdFile (s : Rst) : ByteArray × Rst := (strOfNums (rtk (rnum 1 s).1.toNat (rnum 1 s).2).1, (rtk (rnum 1 s).1.toNat (rnum 1 s).2).2)
def rdFileR (s : Rst) : ByteArray × Rst :=
  if (rnumR 1 s).2.2 = false ∧ (rnumR 1 s).1.toNat ≤ (rnumR 1 s).2.1.length ∧ (rnumR 1 s).1.toNat ≤ 32 then (strOfNums ((rnumR 1 s).2.1.take (rnumR 1 s).1.toNat), ((rnumR 1 s).2.1.drop (rnumR 1 s).1.toNat, false)) else (ByteArray.empty, ((rnumR 1 s).2.1, true))
theorem rtk_stays (k : Nat) (s : Rst) (h : s.2 = true) : (rtk k s).2.2 = true := by unfold rtk; split; exact h; rfl
theorem rtk_ok {k : Nat} {s : Rst} (h : k ≤ s.1.length) : rtk k s = (s.1.take k, (s.1.drop k, s.2)) := by unfold rtk; rw [if_pos h]
theorem rtk_no {k : Nat} {s : Rst} (h : ¬ k ≤ s.1.length) : rtk k s = ([], (s.1, true)) := by unfold rtk; rw [if_neg h]
theorem good_file : Good rdFile rdFileR fileB (fun s => s.size < 256) (fun s => s.size ≤ 32) where
  stays s h := rtk_stays _ _ ((good_num 1).stays s h)
  staysR s h := by
    have := (good_num 1).staysR s h
    unfold rdFileR
    rw [if_neg (by rw [this]; simp)]
  agree s h h2 h3 := by
    have e : (rnum 1 s).2.2 = false := by
      cases e : (rnum 1 s).2.2 with
      | false => rfl
      | true => have := rtk_stays (rnum 1 s).1.toNat _ e; unfold rdFile at h2; rw [this] at h2; cases h2
    have a := (good_num 1).agree s h e trivial
    unfold rdFile at h2 h3 ⊢
    unfold rdFileR
    rw [a]
    obtain ⟨⟨x, l, b⟩, hx⟩ : ∃ y, rnum 1 s = y := ⟨_, rfl⟩
    rw [hx] at e h2 h3 ⊢
    obtain rfl : b = false := e
    dsimp only at h2 h3 ⊢
    by_cases hk : x.toNat ≤ l.length
    · rw [rtk_ok hk] at h2 h3 ⊢
      dsimp only at h3 ⊢
      rw [strOfNums_size, List.length_take, Nat.min_eq_left hk] at h3
      rw [if_pos ⟨rfl, hk, h3⟩]
    · rw [rtk_no hk] at h2; cases h2
  bads s h h2 := by
    cases e : (rnum 1 s).2.2 with
    | true =>
      have := (good_num 1).bads s h (.inl e)
      unfold rdFileR
      rw [if_neg (by rw [this]; simp)]
    | false =>
      have a := (good_num 1).agree s h e trivial
      unfold rdFile at h2
      unfold rdFileR
      rw [a]
      obtain ⟨⟨x, l, b⟩, hx⟩ : ∃ y, rnum 1 s = y := ⟨_, rfl⟩
      rw [hx] at e h2 ⊢
      obtain rfl : b = false := e
      dsimp only at h2 ⊢
      by_cases hk : x.toNat ≤ l.length
      · rw [rtk_ok hk] at h2
        dsimp only at h2
        rw [strOfNums_size, List.length_take, Nat.min_eq_left hk] at h2
        rcases h2 with h2 | h2
        · cases h2
        · rw [if_neg (fun h => h2 h.2.2)]
      · rw [if_neg (fun h => hk h.2.1)]
  byt s h := (rtk_byt ((good_num 1).byt s h)).2
  bytR s h := by
    have b := (good_num 1).bytR s h
    unfold rdFileR
    split
    · exact b.drop _
    · exact b
  sound s hb h h2 := by
    have e : (rnum 1 s).2.2 = false := by
      cases e : (rnum 1 s).2.2 with
      | false => rfl
      | true => have := rtk_stays (rnum 1 s).1.toNat _ e; unfold rdFile at h2; rw [this] at h2; cases h2
    obtain ⟨a1, a2⟩ := (good_num 1).sound s hb h e
    have b1 := (good_num 1).byt s hb
    rw [p1] at a2
    unfold rdFile at h2 ⊢
    obtain ⟨⟨x, l, b⟩, hx⟩ : ∃ y, rnum 1 s = y := ⟨_, rfl⟩
    rw [hx] at h2 a1 a2 b1 ⊢
    dsimp only at h2 a1 a2 b1 ⊢
    by_cases hk : x.toNat ≤ l.length
    · rw [rtk_ok hk]
      dsimp only
      have hs : (strOfNums (l.take x.toNat)).size = x.toNat := by rw [strOfNums_size, List.length_take, Nat.min_eq_left hk]
      refine ⟨?_, by rw [hs]; omega⟩
      unfold fileB
      rw [hs, bytesOf_str _ (b1.take _), Int.toNat_of_nonneg a2.1, List.append_assoc, List.take_append_drop]
      exact a1
    · rw [rtk_no hk] at h2; cases h2
  full x t h := by
    unfold rdFile fileB
    rw [List.append_assoc, (good_num 1).full _ _ (by rw [p1]; omega)]
    dsimp only
    rw [Int.toNat_natCast, rtk_ok (by rw [List.length_append, bytesOf_len]; omega)]
    dsimp only
    rw [List.take_left' (bytesOf_len x), List.drop_left' (bytesOf_len x), str_bytesOf]
  encb x _ := fileB_byt x
/-- A list is told, the reader has s left. -/
def TPost {α : Type} (E : Enc α) (t : Nat) (v : Value) (bs : List Int) (p : Nat) (w0 : World) (R : List HP) (xs : List α) (s : Rst) (e : Ending) (w' : World) : Prop :=
  ∃ A c v2, e = .returned (.slice A xs.length c) ∧ (∀ W, RdL U8 W v bs → RdL U8 W v2 s.1) ∧ Hs w0 w' (Ls E t (.slice A xs.length c) xs :: Blk p (.cells #[v2, .bool s.2] 90) :: R)
set_option maxRecDepth 100000 in
set_option maxHeartbeats 800000 in
theorem file64 (p : Nat) (v0 : Value) (bs0 : List Int) (bad0 : Bool) (w w0 : World) (R : List HP) (H : Hs w0 w (Blk p (.cells #[v0, .bool bad0] 90) :: R)) (hr : ∀ w', Hs w0 w' R → RdL U8 w' v0 bs0) (hb : Byt bs0) :
    Calls Try.prog 64 #[.pointer (some ⟨p, 0, none⟩)] w (RdPost v0 bs0 p 90 w0 R (.string (rdFile (bs0, bad0)).1) (rdFile (bs0, bad0)).2) := by
  have hr0 := Lib.hid hr
  have hb0 := Lib.hid hb
  have b1 := (good_num 1).byt (bs0, bad0) hb
  have hk := rnum_lt 1 (bs0, bad0) hb
  obtain ⟨⟨x, bs1, bad1⟩, hs1⟩ : ∃ x, rnum 1 (bs0, bad0) = x := ⟨_, rfl⟩
  rw [hs1] at b1 hk
  obtain ⟨hk0, hk1⟩ := hk
  rw [p1] at hk1
  dsimp only at b1 hk0 hk1
  obtain ⟨k, rfl⟩ := Int.eq_ofNat_of_zero_le hk0
  obtain ⟨⟨ys, bs2, bad2⟩, hs2⟩ : ∃ x, rtk k (bs1, bad1) = x := ⟨_, rfl⟩
  have hfin : rdFile (bs0, bad0) = (strOfNums ys, (bs2, bad2)) := by unfold rdFile; rw [hs1]; dsimp only; rw [Int.toNat_natCast, hs2]
  rw [hfin]
  have K := Lib.hid H
  replace hs1 := Lib.hid hs1
  replace hs2 := Lib.hid hs2
  have hb1 := Lib.hid b1
  clear H hr hb hfin b1
  go_enter Try.func64, Try.ntmps64
  go_wp2_with fail
  refine (number42 p v0 bs0 bad0 1 (by omega) w w0 R K.out hr0.out hb0.out).mono ?_
  rintro e w1 ⟨v1, rfl, hrd, K1⟩
  rw [hs1.out] at hrd K1 ⊢
  have hV := Lib.hid hrd
  replace K1 := Lib.hid K1
  clear hrd K
  go_wp2_with fail
  refine (take65 p v1 bs1 bad1 k w1 w0 R K1.out (hV.out w1 (hr0.out w1 K1.out.tail))).mono ?_
  rintro e w2 ⟨v2, v3, rfl, hrd, K2⟩
  rw [hs2.out] at hrd K2
  have hV2 : Hid (∀ W, RdL U8 W v0 bs0 → RdL U8 W v3 bs2) := fun W h => (hrd W (hV.out W h)).2
  have cv := conv_bytes ((hrd w2 (hV.out w2 (hr0.out w2 K2.tail))).1)
  replace K2 := Lib.hid K2
  clear hrd K1
  go_wp2_with fail
  go_ret
  exact ⟨v3, rfl, hV2.out, K2.out⟩
end Go.Proofs.Ytjdkpogkhecijaa

import Derived.Test.YtjdkpogkhecijaaUb
import Derived.IntWalk
import Derived.Test.YtjdkpogkhecijaaProg
import Derived.Test.YtjdkpogkhecijaaLs
import Derived.Outline
import Derived.StillTailTactics
import Derived.Deep.DeepCutAuto
import Derived.Deep.CutBlock
import Derived.Deep.LoopGhost
import Derived.Deep.QuietTactic
import Derived.BigQuiet
import Derived.Deep.RegionHeld3
import Derived.Deep.RegionLaw
set_option linter.unusedVariables false
set_option linter.unusedSimpArgs false
namespace Go.Proofs.Ytjdkpogkhecijaa
open Go.RowKit
theorem rnumR_left {k : Nat} {s : Rst} : (rnumR k s).2.1.length ≤ s.1.length := by
  unfold rnumR
  split
  · show (s.1.drop k).length ≤ _; rw [List.length_drop]; omega
  · exact Nat.le_refl _
theorem fileR_yes {k : Nat} {b bj : List Int} (h : rnumR 1 (b, false) = ((k : Int), (bj, false))) (h1 : k ≤ bj.length) (h2 : k ≤ 32) : rdFileR (b, false) = (strOfNums (bj.take k), (bj.drop k, false)) := by
  unfold rdFileR
  rw [h]
  dsimp only
  rw [Int.toNat_natCast, if_pos ⟨rfl, h1, h2⟩]
theorem fileR_no {k : Nat} {b bj : List Int} {dj : Bool} (h : rnumR 1 (b, false) = ((k : Int), (bj, dj))) (h1 : dj = true ∨ ¬ k ≤ bj.length ∨ ¬ k ≤ 32) : rdFileR (b, false) = (ByteArray.empty, (bj, true)) := by
  unfold rdFileR
  rw [h]
  dsimp only
  rw [Int.toNat_natCast, if_neg]
  rintro ⟨a1, a2, a3⟩
  rcases h1 with h1 | h1 | h1
  · rw [h1] at a1; cases a1
  · exact h1 a2
  · exact h1 a3
set_option maxRecDepth 100000 in
set_option maxHeartbeats 4000000 in
theorem ropenM38 (v : Value) (b : List Int) (w w0 : World) (R : List HP) (H : Hs w0 w R) (hr : ∀ w', Hs w0 w' R → RdL U8 w' v b) (hb : Byt b) (hbl : b.length ≤ 1000000000) :
    Calls Try.prog 38 #[v] w (MP w0 R (opM b)) := by
  obtain ⟨A0, cb, hv⟩ := (hr w H).form
  subst hv
  obtain ⟨nb, hnb⟩ : ∃ n, b.length = n := ⟨_, rfl⟩
  rw [hnb] at hr ⊢
  replace hnb := Lib.hid hnb
  have K := ((H.alloc (.cells #[.int .u64 0, .int .u64 0, .slice none 0 0] 62)).alloc (.cells #[.slice A0 nb cb, .bool false] 131))
  rw [show (w.alloc (.cells #[.int .u64 0, .int .u64 0, .slice none 0 0] 62)).heap.size = w.heap.size + 1 from Array.size_push ..] at K
  obtain ⟨⟨n, b1, bad1⟩, hs1⟩ : ∃ x, rnumR 8 (b, false) = x := ⟨_, rfl⟩
  obtain ⟨⟨ep, b2, bad2⟩, hs2⟩ : ∃ x, rnumR 8 (b1, bad1) = x := ⟨_, rfl⟩
  obtain ⟨⟨cn, b3, bad3⟩, hs3⟩ : ∃ x, rnumR 2 (b2, bad2) = x := ⟨_, rfl⟩
  have hy1 : Hid (Byt b1) := by have := (good_num 8).bytR (b, false) hb; rw [hs1] at this; exact this
  have hy2 : Hid (Byt b2) := by have := (good_num 8).bytR (b1, bad1) hy1.out; rw [hs2] at this; exact this
  have hy3 : Hid (Byt b3) := by have := (good_num 2).bytR (b2, bad2) hy2.out; rw [hs3] at this; exact this
  have hc := rnumR_lt 2 (b2, bad2) hy2.out
  rw [hs3, show (256 : Int) ^ 2 = 65536 from rfl] at hc
  obtain ⟨hc0, hc1⟩ := hc
  dsimp only at hc0 hc1
  obtain ⟨N, rfl⟩ := Int.eq_ofNat_of_zero_le hc0
  obtain ⟨⟨fs, l, bad⟩, hX⟩ : ∃ x, thgR rdFileR N (b3, bad3) [] = x := ⟨_, rfl⟩
  have hx : rdMnR (b, false) = ((n, ep, fs), (l, bad)) := by unfold rdMnR rdPair rdListR; dsimp only; rw [hs1]; dsimp only; rw [hs2]; dsimp only; rw [hs3]; dsimp only; rw [Int.toNat_natCast, hX]
  have hop := opM_ref hb hx
  obtain ⟨X, hXX⟩ : ∃ X, opM b = X := ⟨_, rfl⟩
  rw [hXX] at hop ⊢
  have hX0 : Hid (thgR rdFileR N (b3, bad3) [] = (fs, (l, bad))) := hX
  have hop0 := Lib.hid hop
  have hr0 := Lib.hid hr
  have hb0 := Lib.hid hb
  clear hx hr hb H hop hX hXX hc0 hbl
  replace hs1 := Lib.hid hs1
  replace hs2 := Lib.hid hs2
  replace hs3 := Lib.hid hs3
  replace K := Lib.hid K
  go_enter Try.func38, Try.ntmps38
  go_upto_region 2 with (fail)
  generalize World.alloc _ _ = w1 at K ⊢
  generalize w.heap.size + 1 = p at K ⊢
  generalize w.heap.size = q at K ⊢
  go_wp2_with fail
  refine (num74 p (.slice A0 nb cb) b false 8 (by omega) _ w0 _ K.out (fun w' h => hr0.out w' h.tail) hb0.out).mono ?_
  rintro e y1 ⟨v1, rfl, hrd, K2⟩
  rw [hs1.out] at hrd K2 ⊢
  have hV1 : Hid (∀ w', Hs w0 w' R → RdL U8 w' v1 b1) := fun w' h => hrd w' (hr0.out w' h)
  replace K2 := Lib.hid K2
  clear K hrd
  go_wp2_with fail
  refine (num74 p v1 b1 bad1 8 (by omega) _ w0 _ K2.out (fun w' h => hV1.out w' h.tail) hy1.out).mono ?_
  rintro e y2 ⟨v2, rfl, hrd, K3⟩
  rw [hs2.out] at hrd K3 ⊢
  have hV2 : Hid (∀ w', Hs w0 w' R → RdL U8 w' v2 b2) := fun w' h => hrd w' (hV1.out w' h)
  have Km := Lib.hid ((K3.alloc (.cells #[.int .u64 n, .int .u64 ep, .slice none 0 0] 62)).at1)
  clear K2 hrd K3
  go_upto_region 3 with (fail)
  generalize World.alloc y2 _ = w3 at Km ⊢
  generalize y2.heap.size = f at Km ⊢
  go_wp2_with fail
  refine (num74 p v2 b2 bad2 2 (by omega) _ w0 _ Km.out (fun w' h => hV2.out w' h.tail.tail) hy2.out).mono ?_
  rintro e y3 ⟨v3, rfl, hrd, K4⟩
  rw [hs3.out] at hrd K4 ⊢
  have hV3 : Hid (∀ w', Hs w0 w' R → RdL U8 w' v3 b3) := fun w' h => hrd w' (hV2.out w' h)
  have K5 := Lib.hid (K4.at1.ls_nil Enc.str 9)
  clear Km hrd K4
  go_wp2_with fail
  go_loopg [6] N (fun g jv wr => ∃ (j : Nat) (A : Option Addr) (m c : Nat) (out : List ByteArray) (vi : Value) (bi : List Int) (di : Bool), g = j ∧ jv = .int .u64 j ∧ j ≤ N ∧ m + j ≤ N ∧ Hid (out.length = m) ∧ Hid (thgR rdFileR j (bi, di) out = (fs, (l, bad))) ∧ Hid (Byt bi) ∧ Hid (∀ w', Hs w0 w' R → RdL U8 w' vi bi) ∧
    Hid (Hs w0 wr (Ls Enc.str 9 (.slice A m c) out :: Blk f (.cells #[.int .u64 n, .int .u64 ep, .slice A m c] 62) :: Blk p (.cells #[vi, .bool di] 131) :: Blk q (.cells #[.int .u64 0, .int .u64 0, .slice none 0 0] 62) :: R)))
  case atStart => exact ⟨N, none, 0, 0, [], v3, b3, bad3, rfl, rfl, Nat.le_refl _, by omega, Lib.hid rfl, hX0, hy3, hV3, K5⟩
  case round =>
    clear K5 hX0 hy3 hV3
    obtain ⟨j, A, m, c, out, vi, bi, di, hg, rfl, hjN, hmj, hm, hXi, hbi, hVi, K⟩ := hrel
    replace hg := Lib.hid hg
    obtain ⟨Ai, ci, hvi⟩ := (hVi.out wr K.out.tail.tail.tail.tail).form
    subst hvi
    obtain ⟨ni, hni⟩ : ∃ n, bi.length = n := ⟨_, rfl⟩
    rw [hni] at hVi K
    replace hni := Lib.hid hni
    have p0 : wr.cell? ⟨p, 0, none⟩ = some (.slice Ai ni ci) := K.out.at2.cellOf 0 rfl
    have p1 : wr.cell? ⟨p, 1, none⟩ = some (.bool di) := K.out.at2.cellOf 1 rfl
    by_cases hgo : 0 < j ∧ di = false
    · obtain ⟨hj, rfl⟩ := hgo
      obtain ⟨j, rfl⟩ : ∃ i, j = i + 1 := ⟨j - 1, by omega⟩
      have hj1 : decide ((0 : Int) < ((j + 1 : Nat) : Int)) = true := by rw [decide_eq_true_eq]; omega
      have hj2 : decide (0 < j + 1) = true := by rw [decide_eq_true_eq]; omega
      have hwj : IntKind.u64.wrap (((j + 1 : Nat) : Int) - 1) = (j : Int) := by rw [IntKind.wrap_u64]; omega
      have hkk := rnumR_lt 1 (bi, false) hbi.out
      have hbj := (good_num 1).bytR (bi, false) hbi.out
      have hlj := rnumR_left (k := 1) (s := (bi, false))
      obtain ⟨⟨k, bj, dj⟩, hk1⟩ : ∃ x, rnumR 1 (bi, false) = x := ⟨_, rfl⟩
      rw [hk1] at hkk hbj hlj
      obtain ⟨hk0, hk2⟩ := hkk
      rw [show (256 : Int) ^ 1 = 256 from rfl] at hk2
      dsimp only at hk0 hk2 hbj hlj
      obtain ⟨k, rfl⟩ := Int.eq_ofNat_of_zero_le hk0
      have hbj := Lib.hid hbj
      replace hk1 := Lib.hid hk1
      clear hj
      go_wp2_with fail
      refine (num74 p (.slice Ai ni ci) bi false 1 (by omega) wr w0 _ K.out.at2 (fun w' h => hVi.out w' h.tail.tail.tail) hbi.out).mono ?_
      rw [hk1.out]
      rintro e w5 ⟨vj, rfl, hrd, K2⟩
      have hVj : Hid (∀ w', Hs w0 w' R → RdL U8 w' vj bj) := fun w' h => hrd w' (hVi.out w' h)
      have K2 : Hid (Hs w0 w5 (Ls Enc.str 9 (.slice A m c) out :: Blk f (.cells #[.int .u64 n, .int .u64 ep, .slice A m c] 62) :: Blk p (.cells #[vj, .bool dj] 131) :: Blk q (.cells #[.int .u64 0, .int .u64 0, .slice none 0 0] 62) :: R)) := Lib.hid (K2.at2.at2)
      dsimp only at hrd K2 ⊢
      clear hrd K p0 p1
      obtain ⟨Aj, cj, hvj⟩ := (hVj.out w5 K2.out.tail.tail.tail.tail).form
      subst hvj
      obtain ⟨nj, hnj⟩ : ∃ n, bj.length = n := ⟨_, rfl⟩
      rw [hnj] at hVj K2
      have hcj := (hVj.out w5 K2.out.tail.tail.tail.tail).caps.2
      have hnj0 := Lib.hid hnj
      have p0 : w5.cell? ⟨p, 0, none⟩ = some (.slice Aj nj cj) := K2.out.at2.cellOf 0 rfl
      have p1 : w5.cell? ⟨p, 1, none⟩ = some (.bool dj) := K2.out.at2.cellOf 1 rfl
      by_cases hbd : dj = true
      · subst hbd
        clear hnj
        have hfn := fileR_no hk1.out (.inl rfl)
        have hXb := hXi.out
        rw [show thgR rdFileR (j + 1) (bi, false) out = thgR rdFileR j (rdFileR (bi, false)).2 (out ++ [(rdFileR (bi, false)).1]) from rfl, hfn] at hXb
        rw [thgR_stays _ _ _ _ rfl] at hXb
        obtain ⟨h1, h2⟩ := Prod.mk.inj hXb
        obtain ⟨h3, h4⟩ := Prod.mk.inj h2
        subst h4
        have hop := hop0.out
        rw [if_pos (by simp)] at hop
        subst hop
        clear h1 h2 h3 hXb hfn hop0 hXi
        go_upto_region 8 with (fail)
        clear p0 p1
        have g0_ := K2.out.at3.frozenOf 0
        have g1_ := K2.out.at3.frozenOf 1
        have g2_ := K2.out.at3.frozenOf 2
        have b0_ : w5.cell? ⟨q, 0, none⟩ = some (.int .u64 0) := K2.out.at3.cellOf 0 rfl
        have b1_ : w5.cell? ⟨q, 1, none⟩ = some (.int .u64 0) := K2.out.at3.cellOf 1 rfl
        have b2_ : w5.cell? ⟨q, 2, none⟩ = some (.slice none 0 0) := K2.out.at3.cellOf 2 rfl
        go_wp2_with fail
        have K9 := (((K2.out.at3.setCell (i := 0) (.int .u64 0)).setCell (i := 1) (.int .u64 0)).setCell (i := 2) (.slice none 0 0))
        generalize World.setCell _ _ _ = w9 at K9 ⊢
        simp only [List.setIfInBounds_toArray, List.set_cons_zero, List.set_cons_succ] at K9
        have r_0 : w9.cell? ⟨q, 0, none⟩ = some (.int .u64 0) := K9.cellOf 0 rfl
        have r_1 : w9.cell? ⟨q, 1, none⟩ = some (.int .u64 0) := K9.cellOf 1 rfl
        have r_2 : w9.cell? ⟨q, 2, none⟩ = some (.slice none 0 0) := K9.cellOf 2 rfl
        refine bodyPost_ret (v := .tuple #[.agg #[.int .u64 0, .int .u64 0, .slice none 0 0], .int .i64 10]) ?_ rfl ⟨none, 0, rfl, K9.tail.tail.tail.tail.ls_nil _ _⟩
        simp [results, Try.results38, go_sem, r_0, r_1, r_2]
      obtain rfl : dj = false := by cases dj with | false => rfl | true => exact absurd rfl hbd
      clear hbd
      by_cases hlen : nj < k
      · have e1 : decide ((nj : Int) < (k : Int)) = true := by rw [decide_eq_true_eq]; omega
        have e2 : decide (nj < k) = true := by rw [decide_eq_true_eq]; omega
        have hfn := fileR_no hk1.out (.inr (.inl (by omega)))
        have hXb := hXi.out
        rw [show thgR rdFileR (j + 1) (bi, false) out = thgR rdFileR j (rdFileR (bi, false)).2 (out ++ [(rdFileR (bi, false)).1]) from rfl, hfn] at hXb
        rw [thgR_stays _ _ _ _ rfl] at hXb
        obtain ⟨h1, h2⟩ := Prod.mk.inj hXb
        obtain ⟨h3, h4⟩ := Prod.mk.inj h2
        subst h4
        have hop := hop0.out
        rw [if_pos (by simp)] at hop
        subst hop
        clear h1 h2 h3 hXb hfn hop0 hXi
        clear hnj hlen
        go_upto_region 8 with (fail)
        clear p0 p1 e1 e2
        have g0_ := K2.out.at3.frozenOf 0
        have g1_ := K2.out.at3.frozenOf 1
        have g2_ := K2.out.at3.frozenOf 2
        have b0_ : w5.cell? ⟨q, 0, none⟩ = some (.int .u64 0) := K2.out.at3.cellOf 0 rfl
        have b1_ : w5.cell? ⟨q, 1, none⟩ = some (.int .u64 0) := K2.out.at3.cellOf 1 rfl
        have b2_ : w5.cell? ⟨q, 2, none⟩ = some (.slice none 0 0) := K2.out.at3.cellOf 2 rfl
        go_wp2_with fail
        have K9 := (((K2.out.at3.setCell (i := 0) (.int .u64 0)).setCell (i := 1) (.int .u64 0)).setCell (i := 2) (.slice none 0 0))
        generalize World.setCell _ _ _ = w9 at K9 ⊢
        simp only [List.setIfInBounds_toArray, List.set_cons_zero, List.set_cons_succ] at K9
        have r_0 : w9.cell? ⟨q, 0, none⟩ = some (.int .u64 0) := K9.cellOf 0 rfl
        have r_1 : w9.cell? ⟨q, 1, none⟩ = some (.int .u64 0) := K9.cellOf 1 rfl
        have r_2 : w9.cell? ⟨q, 2, none⟩ = some (.slice none 0 0) := K9.cellOf 2 rfl
        refine bodyPost_ret (v := .tuple #[.agg #[.int .u64 0, .int .u64 0, .slice none 0 0], .int .i64 10]) ?_ rfl ⟨none, 0, rfl, K9.tail.tail.tail.tail.ls_nil _ _⟩
        simp [results, Try.results38, go_sem, r_0, r_1, r_2]
      have e1 : decide ((nj : Int) < (k : Int)) = false := by rw [decide_eq_false_iff_not]; omega
      have e2 : decide (nj < k) = false := by rw [decide_eq_false_iff_not]; omega
      by_cases hlong : 32 < k
      · have e3 : decide ((32 : Int) < (k : Int)) = true := by rw [decide_eq_true_eq]; omega
        have e4 : decide (32 < k) = true := by rw [decide_eq_true_eq]; omega
        have hfn := fileR_no hk1.out (.inr (.inr (by omega)))
        have hXb := hXi.out
        rw [show thgR rdFileR (j + 1) (bi, false) out = thgR rdFileR j (rdFileR (bi, false)).2 (out ++ [(rdFileR (bi, false)).1]) from rfl, hfn] at hXb
        rw [thgR_stays _ _ _ _ rfl] at hXb
        obtain ⟨h1, h2⟩ := Prod.mk.inj hXb
        obtain ⟨h3, h4⟩ := Prod.mk.inj h2
        subst h4
        have hop := hop0.out
        rw [if_pos (by simp)] at hop
        subst hop
        clear h1 h2 h3 hXb hfn hop0 hXi
        clear hnj hlen hlong
        go_upto_region 8 with (fail)
        clear p0 p1 e1 e2 e3 e4
        have g0_ := K2.out.at3.frozenOf 0
        have g1_ := K2.out.at3.frozenOf 1
        have g2_ := K2.out.at3.frozenOf 2
        have b0_ : w5.cell? ⟨q, 0, none⟩ = some (.int .u64 0) := K2.out.at3.cellOf 0 rfl
        have b1_ : w5.cell? ⟨q, 1, none⟩ = some (.int .u64 0) := K2.out.at3.cellOf 1 rfl
        have b2_ : w5.cell? ⟨q, 2, none⟩ = some (.slice none 0 0) := K2.out.at3.cellOf 2 rfl
        go_wp2_with fail
        have K9 := (((K2.out.at3.setCell (i := 0) (.int .u64 0)).setCell (i := 1) (.int .u64 0)).setCell (i := 2) (.slice none 0 0))
        generalize World.setCell _ _ _ = w9 at K9 ⊢
        simp only [List.setIfInBounds_toArray, List.set_cons_zero, List.set_cons_succ] at K9
        have r_0 : w9.cell? ⟨q, 0, none⟩ = some (.int .u64 0) := K9.cellOf 0 rfl
        have r_1 : w9.cell? ⟨q, 1, none⟩ = some (.int .u64 0) := K9.cellOf 1 rfl
        have r_2 : w9.cell? ⟨q, 2, none⟩ = some (.slice none 0 0) := K9.cellOf 2 rfl
        refine bodyPost_ret (v := .tuple #[.agg #[.int .u64 0, .int .u64 0, .slice none 0 0], .int .i64 10]) ?_ rfl ⟨none, 0, rfl, K9.tail.tail.tail.tail.ls_nil _ _⟩
        simp [results, Try.results38, go_sem, r_0, r_1, r_2]
      have e3 : decide ((32 : Int) < (k : Int)) = false := by rw [decide_eq_false_iff_not]; omega
      have e4 : decide (32 < k) = false := by rw [decide_eq_false_iff_not]; omega
      have hkn : k ≤ nj := by omega
      have hfy := fileR_yes hk1.out (by omega) (by omega)
      have hXj : Hid (thgR rdFileR j (bj.drop k, false) (out ++ [strOfNums (bj.take k)]) = (fs, (l, bad))) := by
        have := hXi.out
        rw [show thgR rdFileR (j + 1) (bi, false) out = thgR rdFileR j (rdFileR (bi, false)).2 (out ++ [(rdFileR (bi, false)).1]) from rfl, hfy] at this
        exact this
      have ct := cut_take Try.prog 22 5 1 Try.underlying22 (by kernel_rfl) Aj nj cj k (by omega)
      obtain ⟨A2, hA2, cd⟩ := cut_drop Try.prog 22 5 1 Try.underlying22 (by kernel_rfl) Aj nj cj k hkn
      have hVz : Hid (∀ w', Hs w0 w' R → RdL U8 w' (.slice A2 (nj - k) (cj - k)) (bj.drop k)) := fun w' h => (hVj.out w' h).dropA hkn rfl hA2
      have hbz : Hid (Byt (bj.drop k)) := hbj.out.drop k
      obtain ⟨x, hx⟩ : ∃ x, strOfNums (bj.take k) = x := ⟨_, rfl⟩
      have hcv : Hid (∀ w', Hs w0 w' R → (convert 22 9 (.slice Aj k cj)).run Try.prog w' = .ok (.string x) w') := fun w' h => by rw [← hx]; exact conv_bytes ((hVj.out w' h).take k hkn)
      rw [hx] at hXj
      have hm8 : m + 1 ≤ 65536 := by omega
      clear hx hfy hXi hlen hlong hnj
      have KQ := Lib.hid K2.out
      have SS : Hid (∀ X w', Hs w0 w' (X :: Blk f (.cells #[.int .u64 n, .int .u64 ep, .slice A m c] 62) :: Blk p (.cells #[.slice Aj nj cj, .bool false] 131) :: Blk q (.cells #[.int .u64 0, .int .u64 0, .slice none 0 0] 62) :: R) → w'.cell? ⟨f, 2, none⟩ = some (.slice A m c) ∧ w'.cell? ⟨p, 0, none⟩ = some (.slice Aj nj cj) ∧ (convert 22 9 (.slice Aj k cj)).run Try.prog w' = .ok (.string x) w') := fun X w' h => ⟨h.at1.cellOf 2 rfl, h.at2.cellOf 0 rfl, hcv.out w' h.tail.tail.tail.tail⟩
      go_upto_region 9 with (fail)
      clear p0 p1 e1 e2 e3 e4 K2
      refine wp_region_left (S := fun w' : World => w'.cell? ⟨f, 2, none⟩ = some (.slice A m c) ∧ w'.cell? ⟨p, 0, none⟩ = some (.slice Aj nj cj) ∧ (convert 22 9 (.slice Aj k cj)).run Try.prog w' = .ok (.string x) w') 12 mixed ?_
      have hS : (fun w' : World => w'.cell? ⟨f, 2, none⟩ = some (.slice A m c) ∧ w'.cell? ⟨p, 0, none⟩ = some (.slice Aj nj cj) ∧ (convert 22 9 (.slice Aj k cj)).run Try.prog w' = .ok (.string x) w') w5.drew := by exact SS.out _ _ KQ.out.drew
      refine Left.pure (i := 0) (v := ?v9_0) rfl (by kernel_rfl) (fun _ _ _ h => h) (Or.inr hS) (Or.inl ⟨by kernel_rfl, fun w _ => ?hy9_0⟩) ?rest9_0
      case hy9_0 => (go_simp; try with_reducible rfl)
      try simp only [Act.put, List.setIfInBounds_toArray, List.set_cons_zero, List.set_cons_succ]
      refine Left.take (i := 1) (v := ?v9_1) rfl (by kernel_rfl) (fun _ _ _ h => h) hS (Or.inl ⟨by kernel_rfl, fun w hSw => ?hy9_1⟩) ?rest9_1
      case hy9_1 => ((try dsimp only at hSw); go_simp; try with_reducible rfl)
      try simp only [Act.put, List.setIfInBounds_toArray, List.set_cons_zero, List.set_cons_succ]
      refine Left.pure (i := 2) (v := ?v9_2) rfl (by kernel_rfl) (fun _ _ _ h => h) (Or.inr hS) (Or.inl ⟨by kernel_rfl, fun w _ => ?hy9_2⟩) ?rest9_2
      case hy9_2 => (go_simp; try with_reducible rfl)
      try simp only [Act.put, List.setIfInBounds_toArray, List.set_cons_zero, List.set_cons_succ]
      refine Left.pure (i := 3) (v := ?v9_3) rfl (by kernel_rfl) (fun _ _ _ h => h) (Or.inr hS) (Or.inl ⟨by kernel_rfl, fun w _ => ?hy9_3⟩) ?rest9_3
      case hy9_3 => (go_simp; try with_reducible rfl)
      try simp only [Act.put, List.setIfInBounds_toArray, List.set_cons_zero, List.set_cons_succ]
      refine Left.pure (i := 4) (v := ?v9_4) rfl (by kernel_rfl) (fun _ _ _ h => h) (Or.inr hS) (Or.inl ⟨by kernel_rfl, fun w _ => ?hy9_4⟩) ?rest9_4
      case hy9_4 => (go_simp; try with_reducible rfl)
      try simp only [Act.put, List.setIfInBounds_toArray, List.set_cons_zero, List.set_cons_succ]
      refine Left.take (i := 5) (v := ?v9_5) rfl (by kernel_rfl) (fun _ _ _ h => h) hS (Or.inl ⟨by kernel_rfl, fun w hSw => ?hy9_5⟩) ?rest9_5
      case hy9_5 => ((try dsimp only at hSw); go_simp; try with_reducible rfl)
      try simp only [Act.put, List.setIfInBounds_toArray, List.set_cons_zero, List.set_cons_succ]
      refine Left.pure (i := 6) (v := ?v9_6) rfl (by kernel_rfl) (fun _ _ _ h => h) (Or.inr hS) (Or.inl ⟨by kernel_rfl, fun w _ => ?hy9_6⟩) ?rest9_6
      case hy9_6 => (go_simp; try with_reducible rfl)
      try simp only [Act.put, List.setIfInBounds_toArray, List.set_cons_zero, List.set_cons_succ]
      refine Left.pure (i := 7) (v := ?v9_7) rfl (by kernel_rfl) (fun _ _ _ h => h) (Or.inr hS) (Or.inl ⟨by kernel_rfl, fun w _ => ?hy9_7⟩) ?rest9_7
      case hy9_7 => (go_simp; try with_reducible rfl)
      try simp only [Act.put, List.setIfInBounds_toArray, List.set_cons_zero, List.set_cons_succ]
      refine Left.take (i := 8) (v := ?v9_8) rfl (by kernel_rfl) (fun _ _ _ h => h) hS (Or.inl ⟨by kernel_rfl, fun w hSw => ?hy9_8⟩) ?rest9_8
      case hy9_8 => ((try dsimp only at hSw); go_simp; try with_reducible rfl)
      try simp only [Act.put, List.setIfInBounds_toArray, List.set_cons_zero, List.set_cons_succ]
      refine Left.run (i := 9) rfl (by kernel_rfl) (fun K hK => ?_)
      go_simp
      replace hS : (fun w' : World => w'.cell? ⟨f, 2, none⟩ = some (.slice A m c) ∧ w'.cell? ⟨p, 0, none⟩ = some (.slice Aj nj cj) ∧ (convert 22 9 (.slice Aj k cj)).run Try.prog w' = .ok (.string x) w') (w5.drew.alloc (.cells #[.string x] 9)) := by exact SS.out _ _ (KQ.out.drew.alloc_ _)
      refine hK.out _ _ (Or.inr hS) ?_
      clear hK K
      try simp only [Act.put, List.setIfInBounds_toArray, List.set_cons_zero, List.set_cons_succ]
      refine Left.run (i := 10) rfl (by kernel_rfl) (fun K hK => ?_)
      refine step_append_box (E := Enc.str) (v := .slice A m c) (by rfl) (.tmp 51) (.tmp 59) 60 (by rfl) 9 _ 1 16 Try.underlying60 infoTh63 rfl (by decide) (by decide) rfl (by rfl) (by rfl) (KQ.out.drew.alloc_ _) x (by exact RdL.boxAt _ (by simp)) (by rw [hm.out]; omega) ?_
      intro A6 c6 w6 K6
      rw [hm.out] at K6
      rw [hm.out]
      replace hS : (fun w' : World => w'.cell? ⟨f, 2, none⟩ = some (.slice A m c) ∧ w'.cell? ⟨p, 0, none⟩ = some (.slice Aj nj cj) ∧ (convert 22 9 (.slice Aj k cj)).run Try.prog w' = .ok (.string x) w') w6 := by exact SS.out _ _ K6
      refine hK.out _ _ (Or.inr hS) ?_
      clear hK K
      try simp only [Act.put, List.setIfInBounds_toArray, List.set_cons_zero, List.set_cons_succ]
      refine Left.pure (i := 11) (v := ?v9_11) rfl (by kernel_rfl) (fun _ _ _ h => h) (Or.inr hS) (Or.inl ⟨by kernel_rfl, fun w _ => ?hy9_11⟩) ?rest9_11
      case hy9_11 => (go_simp; try with_reducible rfl)
      try simp only [Act.put, List.setIfInBounds_toArray, List.set_cons_zero, List.set_cons_succ]
      refine Left.run (i := 12) rfl (by kernel_rfl) (fun K hK => ?_)
      have f2 := K6.at1.frozenOf 2
      have d2 := K6.at1.cellOf 2 rfl
      go_simp
      refine hK.out _ _ (Or.inl (by kernel_rfl)) ?_
      clear hK K
      try simp only [Act.put, List.setIfInBounds_toArray, List.set_cons_zero, List.set_cons_succ]
      refine Left.done (by kernel_rfl) ?_ _
      have K7 := Lib.hid (K6.at1.setCell (i := 2) (.slice A6 (m + 1) c6))
      simp only [List.setIfInBounds_toArray, List.set_cons_zero, List.set_cons_succ] at K7
      clear KQ SS hcv f2 d2 K6
      generalize World.setCell _ _ _ = w7 at K7 ⊢
      have d0 : w7.cell? ⟨p, 0, none⟩ = some (.slice Aj nj cj) := K7.out.at2.cellOf 0 rfl
      have e0 := K7.out.at2.frozenOf 0
      have K8 := Lib.hid (K7.out.at2.setCell (i := 0) (.slice A2 (nj - k) (cj - k))).at1.at2
      simp only [List.setIfInBounds_toArray, List.set_cons_zero, List.set_cons_succ] at K8
      clear K7
      have hwj3 : IntKind.u64.wrap ((j : Int) + 1 - 1) = (j : Int) := by rw [IntKind.wrap_u64]; omega
      go_wp2_with fail
      clear d0 e0
      go_roundg j
      case measure => have := hg.out; omega
      case rel => exact ⟨j, A6, m + 1, c6, out ++ [x], _, bj.drop k, false, rfl, rfl, by omega, by omega, Lib.hid (by rw [List.length_append, hm.out]; rfl), hXj, hbz, hVz, K8⟩
    · have hXe : (out, ((bi, di) : Rst)) = (fs, (l, bad)) := by
        have h1 := hXi.out
        rcases Nat.eq_zero_or_pos j with h0 | h0
        · subst h0; exact h1
        · cases di with
          | true => rw [thgR_stays _ _ _ _ rfl] at h1; exact h1
          | false => exact absurd ⟨h0, rfl⟩ hgo
      obtain ⟨rfl, h2⟩ := Prod.mk.inj hXe
      obtain ⟨rfl, rfl⟩ := Prod.mk.inj h2
      clear hXe h2 hXi
      have hle : (!bi.isEmpty) = decide ((0 : Int) < (ni : Int)) := by
        rw [← hni.out]
        cases bi with
        | nil => rfl
        | cons x r => symm; exact decide_eq_true (by rw [List.length_cons]; omega)
      have hop := hop0.out
      rw [hle] at hop
      clear hle hop0
      obtain ⟨Q, hQ⟩ : ∃ Q, (di || decide ((0 : Int) < (ni : Int))) = Q := ⟨_, rfl⟩
      rw [hQ] at hop
      have hle2 : decide ((0 : Int) < (ni : Int)) = decide (0 < ni) := by rw [decide_eq_decide]; omega
      have hgo2 : j = 0 ∨ di = true := by
        rcases Nat.eq_zero_or_pos j with h0 | h0
        · exact .inl h0
        · cases di with
          | true => exact .inr rfl
          | false => exact absurd ⟨h0, rfl⟩ hgo
      replace hQ := Lib.hid hQ
      replace hop := Lib.hid hop
      replace hle2 := Lib.hid hle2
      clear hgo
      rcases hgo2 with rfl | rfl
      · cases di with
        | true =>
          have hop := hop.out
          rw [if_pos (by rw [← hQ.out]; rfl)] at hop
          subst hop
          have hz0 : decide ((0 : Int) < ((0 : Nat) : Int)) = false := by decide
          go_upto_region 12 with (fail)
          clear p0 p1
          have g0_ := K.out.at3.frozenOf 0
          have g1_ := K.out.at3.frozenOf 1
          have g2_ := K.out.at3.frozenOf 2
          have b0_ : wr.cell? ⟨q, 0, none⟩ = some (.int .u64 0) := K.out.at3.cellOf 0 rfl
          have b1_ : wr.cell? ⟨q, 1, none⟩ = some (.int .u64 0) := K.out.at3.cellOf 1 rfl
          have b2_ : wr.cell? ⟨q, 2, none⟩ = some (.slice none 0 0) := K.out.at3.cellOf 2 rfl
          go_wp2_with fail
          have K9 := (((K.out.at3.setCell (i := 0) (.int .u64 0)).setCell (i := 1) (.int .u64 0)).setCell (i := 2) (.slice none 0 0))
          generalize World.setCell _ _ _ = w9 at K9 ⊢
          simp only [List.setIfInBounds_toArray, List.set_cons_zero, List.set_cons_succ] at K9
          have r_0 : w9.cell? ⟨q, 0, none⟩ = some (.int .u64 0) := K9.cellOf 0 rfl
          have r_1 : w9.cell? ⟨q, 1, none⟩ = some (.int .u64 0) := K9.cellOf 1 rfl
          have r_2 : w9.cell? ⟨q, 2, none⟩ = some (.slice none 0 0) := K9.cellOf 2 rfl
          refine bodyPost_ret (v := .tuple #[.agg #[.int .u64 0, .int .u64 0, .slice none 0 0], .int .i64 10]) ?_ rfl ⟨none, 0, rfl, K9.tail.tail.tail.tail.ls_nil _ _⟩
          simp [results, Try.results38, go_sem, r_0, r_1, r_2]
        | false =>
          rcases Bool.eq_false_or_eq_true (decide ((0 : Int) < (ni : Int))) with hd | hd
          · have hop := hop.out
            rw [if_pos (by rw [← hQ.out, hd]; rfl)] at hop
            subst hop
            have hd2 : decide (0 < ni) = true := by rw [← hle2.out]; exact hd
            have hz0 : decide ((0 : Int) < ((0 : Nat) : Int)) = false := by decide
            go_upto_region 12 with (fail)
            clear p0 p1 hd hd2
            have g0_ := K.out.at3.frozenOf 0
            have g1_ := K.out.at3.frozenOf 1
            have g2_ := K.out.at3.frozenOf 2
            have b0_ : wr.cell? ⟨q, 0, none⟩ = some (.int .u64 0) := K.out.at3.cellOf 0 rfl
            have b1_ : wr.cell? ⟨q, 1, none⟩ = some (.int .u64 0) := K.out.at3.cellOf 1 rfl
            have b2_ : wr.cell? ⟨q, 2, none⟩ = some (.slice none 0 0) := K.out.at3.cellOf 2 rfl
            go_wp2_with fail
            have K9 := (((K.out.at3.setCell (i := 0) (.int .u64 0)).setCell (i := 1) (.int .u64 0)).setCell (i := 2) (.slice none 0 0))
            generalize World.setCell _ _ _ = w9 at K9 ⊢
            simp only [List.setIfInBounds_toArray, List.set_cons_zero, List.set_cons_succ] at K9
            have r_0 : w9.cell? ⟨q, 0, none⟩ = some (.int .u64 0) := K9.cellOf 0 rfl
            have r_1 : w9.cell? ⟨q, 1, none⟩ = some (.int .u64 0) := K9.cellOf 1 rfl
            have r_2 : w9.cell? ⟨q, 2, none⟩ = some (.slice none 0 0) := K9.cellOf 2 rfl
            refine bodyPost_ret (v := .tuple #[.agg #[.int .u64 0, .int .u64 0, .slice none 0 0], .int .i64 10]) ?_ rfl ⟨none, 0, rfl, K9.tail.tail.tail.tail.ls_nil _ _⟩
            simp [results, Try.results38, go_sem, r_0, r_1, r_2]
          · have hop := hop.out
            rw [if_neg (by rw [← hQ.out, hd]; simp)] at hop
            subst hop
            have hd2 : decide (0 < ni) = false := by rw [← hle2.out]; exact hd
            have hz0 : decide ((0 : Int) < ((0 : Nat) : Int)) = false := by decide
            go_upto_region 13 with (fail)
            clear p0 p1 hd hd2
            have x0_ : wr.cell? ⟨f, 0, none⟩ = some (.int .u64 n) := K.out.at1.cellOf 0 rfl
            have x1_ : wr.cell? ⟨f, 1, none⟩ = some (.int .u64 ep) := K.out.at1.cellOf 1 rfl
            have x2_ : wr.cell? ⟨f, 2, none⟩ = some (.slice A m c) := K.out.at1.cellOf 2 rfl
            have g0_ := K.out.at3.frozenOf 0
            have g1_ := K.out.at3.frozenOf 1
            have g2_ := K.out.at3.frozenOf 2
            have b0_ : wr.cell? ⟨q, 0, none⟩ = some (.int .u64 0) := K.out.at3.cellOf 0 rfl
            have b1_ : wr.cell? ⟨q, 1, none⟩ = some (.int .u64 0) := K.out.at3.cellOf 1 rfl
            have b2_ : wr.cell? ⟨q, 2, none⟩ = some (.slice none 0 0) := K.out.at3.cellOf 2 rfl
            go_wp2_with fail
            have K9 := (((K.out.at3.setCell (i := 0) (.int .u64 n)).setCell (i := 1) (.int .u64 ep)).setCell (i := 2) (.slice A m c))
            generalize World.setCell _ _ _ = w9 at K9 ⊢
            simp only [List.setIfInBounds_toArray, List.set_cons_zero, List.set_cons_succ] at K9
            have r_0 : w9.cell? ⟨q, 0, none⟩ = some (.int .u64 n) := K9.cellOf 0 rfl
            have r_1 : w9.cell? ⟨q, 1, none⟩ = some (.int .u64 ep) := K9.cellOf 1 rfl
            have r_2 : w9.cell? ⟨q, 2, none⟩ = some (.slice A m c) := K9.cellOf 2 rfl
            refine bodyPost_ret (v := .tuple #[.agg #[.int .u64 n, .int .u64 ep, .slice A m c], .int .i64 0]) ?_ rfl ⟨A, c, by rw [hm.out], by rw [hm.out]; exact K9.tail.at1.tail.at1.tail⟩
            simp [results, Try.results38, go_sem, r_0, r_1, r_2]
      · rcases Nat.eq_zero_or_pos j with rfl | hj
        · skip
          have hop := hop.out
          rw [if_pos (by rw [← hQ.out]; rfl)] at hop
          subst hop
          have hz0 : decide ((0 : Int) < ((0 : Nat) : Int)) = false := by decide
          go_upto_region 12 with (fail)
          clear p0 p1
          have g0_ := K.out.at3.frozenOf 0
          have g1_ := K.out.at3.frozenOf 1
          have g2_ := K.out.at3.frozenOf 2
          have b0_ : wr.cell? ⟨q, 0, none⟩ = some (.int .u64 0) := K.out.at3.cellOf 0 rfl
          have b1_ : wr.cell? ⟨q, 1, none⟩ = some (.int .u64 0) := K.out.at3.cellOf 1 rfl
          have b2_ : wr.cell? ⟨q, 2, none⟩ = some (.slice none 0 0) := K.out.at3.cellOf 2 rfl
          go_wp2_with fail
          have K9 := (((K.out.at3.setCell (i := 0) (.int .u64 0)).setCell (i := 1) (.int .u64 0)).setCell (i := 2) (.slice none 0 0))
          generalize World.setCell _ _ _ = w9 at K9 ⊢
          simp only [List.setIfInBounds_toArray, List.set_cons_zero, List.set_cons_succ] at K9
          have r_0 : w9.cell? ⟨q, 0, none⟩ = some (.int .u64 0) := K9.cellOf 0 rfl
          have r_1 : w9.cell? ⟨q, 1, none⟩ = some (.int .u64 0) := K9.cellOf 1 rfl
          have r_2 : w9.cell? ⟨q, 2, none⟩ = some (.slice none 0 0) := K9.cellOf 2 rfl
          refine bodyPost_ret (v := .tuple #[.agg #[.int .u64 0, .int .u64 0, .slice none 0 0], .int .i64 10]) ?_ rfl ⟨none, 0, rfl, K9.tail.tail.tail.tail.ls_nil _ _⟩
          simp [results, Try.results38, go_sem, r_0, r_1, r_2]
        · have hz0 : decide ((0 : Int) < (j : Int)) = true := by rw [decide_eq_true_eq]; omega
          have hz00 : decide (0 < j) = true := by rw [decide_eq_true_eq]; omega
          have hop := hop.out
          rw [if_pos (by rw [← hQ.out]; rfl)] at hop
          subst hop
          go_upto_region 12 with (fail)
          clear p0 p1
          have g0_ := K.out.at3.frozenOf 0
          have g1_ := K.out.at3.frozenOf 1
          have g2_ := K.out.at3.frozenOf 2
          have b0_ : wr.cell? ⟨q, 0, none⟩ = some (.int .u64 0) := K.out.at3.cellOf 0 rfl
          have b1_ : wr.cell? ⟨q, 1, none⟩ = some (.int .u64 0) := K.out.at3.cellOf 1 rfl
          have b2_ : wr.cell? ⟨q, 2, none⟩ = some (.slice none 0 0) := K.out.at3.cellOf 2 rfl
          go_wp2_with fail
          have K9 := (((K.out.at3.setCell (i := 0) (.int .u64 0)).setCell (i := 1) (.int .u64 0)).setCell (i := 2) (.slice none 0 0))
          generalize World.setCell _ _ _ = w9 at K9 ⊢
          simp only [List.setIfInBounds_toArray, List.set_cons_zero, List.set_cons_succ] at K9
          have r_0 : w9.cell? ⟨q, 0, none⟩ = some (.int .u64 0) := K9.cellOf 0 rfl
          have r_1 : w9.cell? ⟨q, 1, none⟩ = some (.int .u64 0) := K9.cellOf 1 rfl
          have r_2 : w9.cell? ⟨q, 2, none⟩ = some (.slice none 0 0) := K9.cellOf 2 rfl
          refine bodyPost_ret (v := .tuple #[.agg #[.int .u64 0, .int .u64 0, .slice none 0 0], .int .i64 10]) ?_ rfl ⟨none, 0, rfl, K9.tail.tail.tail.tail.ls_nil _ _⟩
          simp [results, Try.results38, go_sem, r_0, r_1, r_2]
set_option maxRecDepth 100000 in
set_option maxHeartbeats 4000000 in
theorem same32 (n ep : Int) (A1 A2 : Option Addr) (N c1 c2 : Nat) (l : List ByteArray) (w w0 : World) (R : List HP) (H : Hs w0 w R) (h1 : ∀ w', Hs w0 w' R → RdL Enc.str w' (.slice A1 N c1) l) (h2 : ∀ w', Hs w0 w' R → RdL Enc.str w' (.slice A2 N c2) l) (hl : l.length ≤ 1000000000) :
    Calls Try.prog 32 #[.agg #[.int .u64 n, .int .u64 ep, .slice A1 N c1], .agg #[.int .u64 n, .int .u64 ep, .slice A2 N c2]] w fun e w' => e = .returned (.bool true) ∧ Hs w0 w' R := by
  have hN := (h1 w H).caps.1
  have hcap1 := (h1 w H).caps.2
  have hcap2 := (h2 w H).caps.2
  have hNb : N ≤ 1000000000 := by omega
  have K := ((H.alloc (.cells #[.int .u64 n, .int .u64 ep, .slice A1 N c1] 62)).alloc (.cells #[.int .u64 n, .int .u64 ep, .slice A2 N c2] 62))
  rw [show (w.alloc (.cells #[.int .u64 n, .int .u64 ep, .slice A1 N c1] 62)).heap.size = w.heap.size + 1 from Array.size_push ..] at K
  have h10 := Lib.hid h1
  have h20 := Lib.hid h2
  replace K := Lib.hid K
  replace hN := Lib.hid hN
  clear H h1 h2 hl
  go_enter Try.func32, Try.ntmps32
  go_upto_region 1 with (fail)
  generalize World.alloc _ _ = w1 at K ⊢
  generalize w.heap.size + 1 = p at K ⊢
  generalize w.heap.size = q at K ⊢
  have p0 : w1.cell? ⟨p, 0, none⟩ = some (.int .u64 n) := K.out.cellOf 0 rfl
  have p1 : w1.cell? ⟨p, 1, none⟩ = some (.int .u64 ep) := K.out.cellOf 1 rfl
  have p2 : w1.cell? ⟨p, 2, none⟩ = some (.slice A2 N c2) := K.out.cellOf 2 rfl
  have q0 : w1.cell? ⟨q, 0, none⟩ = some (.int .u64 n) := K.out.at1.cellOf 0 rfl
  have q1 : w1.cell? ⟨q, 1, none⟩ = some (.int .u64 ep) := K.out.at1.cellOf 1 rfl
  have q2 : w1.cell? ⟨q, 2, none⟩ = some (.slice A1 N c1) := K.out.at1.cellOf 2 rfl
  go_wp2_with fail
  clear p0 p1 p2 q0 q1 q2
  go_loopg [5] N (fun g iv wr => ∃ i : Nat, g + i = N ∧ iv = .int .i64 i ∧ Hid (Hs w0 wr (Blk p (.cells #[.int .u64 n, .int .u64 ep, .slice A2 N c2] 62) :: Blk q (.cells #[.int .u64 n, .int .u64 ep, .slice A1 N c1] 62) :: R)))
  case atStart => exact ⟨0, rfl, rfl, K⟩
  case round =>
    clear K
    obtain ⟨i, hg, rfl, K⟩ := hrel
    have hiN : i ≤ N := by omega
    replace hg := Lib.hid hg
    have p2 : wr.cell? ⟨p, 2, none⟩ = some (.slice A2 N c2) := K.out.cellOf 2 rfl
    have q2 : wr.cell? ⟨q, 2, none⟩ = some (.slice A1 N c1) := K.out.at1.cellOf 2 rfl
    rcases Nat.lt_or_ge i N with hlt | hlt
    · have hi0 : (0 : Int) ≤ (i : Int) := by omega
      have hi1 : (i : Int) < (N : Int) := by omega
      have hwi : IntKind.i64.wrap ((i : Int) + 1) = ((i + 1 : Nat) : Int) := by rw [IntWalk.i64_in _ (by omega)]; omega
      obtain ⟨x, hx⟩ : ∃ x, l[i]? = some x := ⟨_, List.getElem?_eq_getElem (by have := hN.out; omega)⟩
      obtain ⟨g1, o1, rfl⟩ := (h10.out wr K.out.tail.tail).some_ (by have := hN.out; omega)
      obtain ⟨g2, o2, rfl⟩ := (h20.out wr K.out.tail.tail).some_ (by have := hN.out; omega)
      have s1 : wr.cell? ⟨g1, o1 + i, none⟩ = some (.string x) := by have := (h10.out wr K.out.tail.tail).cell hx 0 rfl; simpa [Enc.str] using this
      have s2 : wr.cell? ⟨g2, o2 + i, none⟩ = some (.string x) := by have := (h20.out wr K.out.tail.tail).cell hx 0 rfl; simpa [Enc.str] using this
      replace hx := Lib.hid hx
      go_wp2_with fail
      go_quiet (fail)
      go_wp2_with fail
      go_roundg (N - (i + 1))
      case measure => have := hg.out; omega
      case rel => exact ⟨i + 1, by have := hg.out; omega, by go_num, Lib.hid (K.out.drewN nq)⟩
    · have hi1 : decide ((i : Int) < (N : Int)) = false := by rw [decide_eq_false_iff_not]; omega
      have hi2 : decide (i < N) = false := by rw [decide_eq_false_iff_not]; omega
      clear hlt
      go_wp2_with fail
      go_ret
      exact ⟨rfl, K.out.tail.tail⟩
end Go.Proofs.Ytjdkpogkhecijaa

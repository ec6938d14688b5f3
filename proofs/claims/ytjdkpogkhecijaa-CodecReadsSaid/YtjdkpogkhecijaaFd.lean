import Derived.Test.YtjdkpogkhecijaaFc
import Derived.IntWalk
import Derived.Test.YtjdkpogkhecijaaProg
import Derived.Test.YtjdkpogkhecijaaLs
import Derived.Outline
import Derived.StillTailTactics
import Derived.Deep.DeepCutAuto
import Derived.Deep.CutBlock
import Derived.Deep.LoopGhost
import Derived.Deep.QuietTactic
import Derived.BigQuiet
import Derived.Deep.RegionHeld3
import Derived.Deep.RegionLaw
set_option linter.unusedVariables false
set_option linter.unusedSimpArgs false
namespace Go.Proofs.Ytjdkpogkhecijaa
open Go.RowKit
set_option maxRecDepth 100000 in
set_option maxHeartbeats 4000000 in
theorem rframe73 (p : Nat) (v0 : Value) (bs0 : List Int) (bad0 : Bool) (w w0 : World) (R : List HP) (H : Hs w0 w (Blk p (.cells #[v0, .bool bad0] 131) :: R)) (hr : ∀ w', Hs w0 w' R → RdL U8 w' v0 bs0) (hb : Byt bs0) :
    Calls Try.prog 73 #[.pointer (some ⟨p, 0, none⟩)] w (RdPost v0 bs0 p 131 w0 R (frv (rdFrR (bs0, bad0)).1) (rdFrR (bs0, bad0)).2) := by
  have K1 := (H.alloc (.cells #[.int .i64 0, .int .i64 0, .int .i64 0, .int .i64 0, .int .i64 0, .int .u64 0, .bool false] 37)).at1
  have hb0 := Lib.hid hb
  have hr0 := Lib.hid hr
  obtain ⟨⟨x1, bs1, bad1⟩, hs1⟩ : ∃ x, rnumR 1 (bs0, bad0) = x := ⟨_, rfl⟩
  have hk : 0 ≤ x1 ∧ x1 < 256 := by have := (rnumR_lt 1 (bs0, bad0) hb); rw [hs1] at this; exact this
  obtain ⟨hk0, hk1⟩ := hk
  have hb1 : Hid (Byt bs1) := by have := (good_num 1).bytR (bs0, bad0) hb; rw [hs1] at this; exact this
  clear hb hr H
  have K := Lib.hid K1
  clear K1
  by_cases k1 : x1 = 1
  · subst k1
    obtain ⟨⟨u2, bs2, bad2⟩, hq2⟩ : ∃ x, rnumR 8 (bs1, bad1) = x := ⟨_, rfl⟩
    have hs2 : lngR 8 (bs1, bad1) = (wrap64 u2, (bs2, bad2)) := by unfold lngR; rw [hq2]
    have hu2 : 0 ≤ u2 := by have := (rnumR_lt 8 (bs1, bad1) hb1.out).1; rw [hq2] at this; exact this
    have hb2 : Hid (Byt bs2) := by have := good_lng.bytR (bs1, bad1) hb1.out; rw [hs2] at this; exact this
    obtain ⟨⟨u3, bs3, bad3⟩, hq3⟩ : ∃ x, rnumR 8 (bs2, bad2) = x := ⟨_, rfl⟩
    have hs3 : lngR 8 (bs2, bad2) = (wrap64 u3, (bs3, bad3)) := by unfold lngR; rw [hq3]
    have hu3 : 0 ≤ u3 := by have := (rnumR_lt 8 (bs2, bad2) hb2.out).1; rw [hq3] at this; exact this
    have hb3 : Hid (Byt bs3) := by have := good_lng.bytR (bs2, bad2) hb2.out; rw [hs3] at this; exact this
    obtain ⟨⟨u4, bs4, bad4⟩, hq4⟩ : ∃ x, rnumR 8 (bs3, bad3) = x := ⟨_, rfl⟩
    have hs4 : lngR 8 (bs3, bad3) = (wrap64 u4, (bs4, bad4)) := by unfold lngR; rw [hq4]
    have hu4 : 0 ≤ u4 := by have := (rnumR_lt 8 (bs3, bad3) hb3.out).1; rw [hq4] at this; exact this
    have hb4 : Hid (Byt bs4) := by have := good_lng.bytR (bs3, bad3) hb3.out; rw [hs4] at this; exact this
    have hres : rdFrR (bs0, bad0) = ((1, ((wrap64 u2), (wrap64 u3), (wrap64 u4)), 0, 0, false), (bs4, bad4)) := by rw [frR_1 (by rw [hs1]), hs1]; unfold rdPair; dsimp only; rw [hs2]; dsimp only; rw [hs3]; dsimp only; rw [hs4]
    rw [hres]
    clear hres
    replace hs2 := Lib.hid hs2
    replace hq2 := Lib.hid hq2
    replace hs3 := Lib.hid hs3
    replace hq3 := Lib.hid hq3
    replace hs4 := Lib.hid hs4
    replace hq4 := Lib.hid hq4
    replace hs1 := Lib.hid hs1
    go_enter Try.func73, Try.ntmps73
    go_upto_region 1 with (fail)
    generalize World.alloc w _ = y0 at K ⊢
    generalize w.heap.size = q at K ⊢
    go_wp2_with fail
    refine (num74 p v0 bs0 bad0 1 (by omega) _ w0 _ K.out (fun w' h => hr0.out w' h.tail) hb0.out).mono ?_
    rintro e y1 ⟨v1, rfl, hrd, K2⟩
    rw [hs1.out] at hrd K2 ⊢
    have hr1 : Hid (∀ w', Hs w0 w' R → RdL U8 w' v1 bs1) := fun w' h => hrd w' (hr0.out w' h)
    have hV1 : Hid (∀ W, RdL U8 W v0 bs0 → RdL U8 W v1 bs1) := fun W h => hrd W (h)
    replace K2 : Hid (Hs w0 y1 (Blk p (.cells #[v1, .bool bad1] 131) :: Blk q (.cells #[.int .i64 0, .int .i64 0, .int .i64 0, .int .i64 0, .int .i64 0, .int .u64 0, .bool false] 37) :: R)) := Lib.hid K2
    clear K hrd
    have K := K2
    clear K2
    have K2 := Lib.hid (K.out.alloc (.cells #[.int .i64 1, .int .i64 0, .int .i64 0, .int .i64 0, .int .i64 0, .int .u64 0, .bool false] 37)).at1
    go_upto_region 2 with (fail)
    clear K
    generalize World.alloc y1 _ = z1 at K2 ⊢
    generalize y1.heap.size = f at K2 ⊢
    have K := K2
    clear K2
    have c0 : z1.cell? ⟨f, 0, none⟩ = some (.int .i64 1) := K.out.at1.cellOf 0 rfl
    go_wp2_with fail
    refine (num74 p v1 bs1 bad1 8 (by omega) _ w0 _ K.out (fun w' h => hr1.out w' h.tail.tail) hb1.out).mono ?_
    rintro e y2 ⟨v2, rfl, hrd, K2⟩
    rw [hq2.out] at hrd K2 ⊢
    have hr2 : Hid (∀ w', Hs w0 w' R → RdL U8 w' v2 bs2) := fun w' h => hrd w' (hr1.out w' h)
    have hV2 : Hid (∀ W, RdL U8 W v0 bs0 → RdL U8 W v2 bs2) := fun W h => hrd W (hV1.out W h)
    replace K2 : Hid (Hs w0 y2 (Blk p (.cells #[v2, .bool bad2] 131) :: Blk f (.cells #[.int .i64 1, .int .i64 0, .int .i64 0, .int .i64 0, .int .i64 0, .int .u64 0, .bool false] 37) :: Blk q (.cells #[.int .i64 0, .int .i64 0, .int .i64 0, .int .i64 0, .int .i64 0, .int .u64 0, .bool false] 37) :: R)) := Lib.hid K2
    clear K hrd
    have K := K2
    clear K2
    go_wp2_with fail
    refine (num74 p v2 bs2 bad2 8 (by omega) _ w0 _ K.out (fun w' h => hr2.out w' h.tail.tail) hb2.out).mono ?_
    rintro e y3 ⟨v3, rfl, hrd, K2⟩
    rw [hq3.out] at hrd K2 ⊢
    have hr3 : Hid (∀ w', Hs w0 w' R → RdL U8 w' v3 bs3) := fun w' h => hrd w' (hr2.out w' h)
    have hV3 : Hid (∀ W, RdL U8 W v0 bs0 → RdL U8 W v3 bs3) := fun W h => hrd W (hV2.out W h)
    replace K2 : Hid (Hs w0 y3 (Blk p (.cells #[v3, .bool bad3] 131) :: Blk f (.cells #[.int .i64 1, .int .i64 0, .int .i64 0, .int .i64 0, .int .i64 0, .int .u64 0, .bool false] 37) :: Blk q (.cells #[.int .i64 0, .int .i64 0, .int .i64 0, .int .i64 0, .int .i64 0, .int .u64 0, .bool false] 37) :: R)) := Lib.hid K2
    clear K hrd
    have K := K2
    clear K2
    go_wp2_with fail
    refine (num74 p v3 bs3 bad3 8 (by omega) _ w0 _ K.out (fun w' h => hr3.out w' h.tail.tail) hb3.out).mono ?_
    rintro e y4 ⟨v4, rfl, hrd, K2⟩
    rw [hq4.out] at hrd K2 ⊢
    have hr4 : Hid (∀ w', Hs w0 w' R → RdL U8 w' v4 bs4) := fun w' h => hrd w' (hr3.out w' h)
    have hV4 : Hid (∀ W, RdL U8 W v0 bs0 → RdL U8 W v4 bs4) := fun W h => hrd W (hV3.out W h)
    replace K2 : Hid (Hs w0 y4 (Blk p (.cells #[v4, .bool bad4] 131) :: Blk f (.cells #[.int .i64 1, .int .i64 0, .int .i64 0, .int .i64 0, .int .i64 0, .int .u64 0, .bool false] 37) :: Blk q (.cells #[.int .i64 0, .int .i64 0, .int .i64 0, .int .i64 0, .int .i64 0, .int .u64 0, .bool false] 37) :: R)) := Lib.hid K2
    clear K hrd
    have K := K2
    clear K2
    have e1 := K.out.at1.frozenOf 1
    have d1 : y4.cell? ⟨f, 1, none⟩ = some (.int .i64 0) := K.out.at1.cellOf 1 rfl
    have e2 := K.out.at1.frozenOf 2
    have d2 : y4.cell? ⟨f, 2, none⟩ = some (.int .i64 0) := K.out.at1.cellOf 2 rfl
    have e3 := K.out.at1.frozenOf 3
    have d3 : y4.cell? ⟨f, 3, none⟩ = some (.int .i64 0) := K.out.at1.cellOf 3 rfl
    have K2 := Lib.hid (((K.out.at1.setCell (i := 1) (.int .i64 (wrap64 u2))).setCell (i := 2) (.int .i64 (wrap64 u3))).setCell (i := 3) (.int .i64 (wrap64 u4))).at1
    go_upto_region 13 with (fail)
    clear e1 d1 e2 d2 e3 d3 K
    generalize World.setCell _ _ _ = z4 at K2 ⊢
    simp only [List.setIfInBounds_toArray, List.set_cons_zero, List.set_cons_succ] at K2
    have K := K2
    clear K2 c0
    have c0 : z4.cell? ⟨f, 0, none⟩ = some (.int .i64 1) := K.out.at1.cellOf 0 rfl
    have c1 : z4.cell? ⟨f, 1, none⟩ = some (.int .i64 (wrap64 u2)) := K.out.at1.cellOf 1 rfl
    have c2 : z4.cell? ⟨f, 2, none⟩ = some (.int .i64 (wrap64 u3)) := K.out.at1.cellOf 2 rfl
    have c3 : z4.cell? ⟨f, 3, none⟩ = some (.int .i64 (wrap64 u4)) := K.out.at1.cellOf 3 rfl
    have c4 : z4.cell? ⟨f, 4, none⟩ = some (.int .i64 0) := K.out.at1.cellOf 4 rfl
    have c5 : z4.cell? ⟨f, 5, none⟩ = some (.int .u64 0) := K.out.at1.cellOf 5 rfl
    have c6 : z4.cell? ⟨f, 6, none⟩ = some (.bool false) := K.out.at1.cellOf 6 rfl
    have g0 := K.out.at2.frozenOf 0
    have g1 := K.out.at2.frozenOf 1
    have g2 := K.out.at2.frozenOf 2
    have g3 := K.out.at2.frozenOf 3
    have g4 := K.out.at2.frozenOf 4
    have g5 := K.out.at2.frozenOf 5
    have g6 := K.out.at2.frozenOf 6
    have b0 : z4.cell? ⟨q, 0, none⟩ = some (.int .i64 0) := K.out.at2.cellOf 0 rfl
    have b1 : z4.cell? ⟨q, 1, none⟩ = some (.int .i64 0) := K.out.at2.cellOf 1 rfl
    have b2 : z4.cell? ⟨q, 2, none⟩ = some (.int .i64 0) := K.out.at2.cellOf 2 rfl
    have b3 : z4.cell? ⟨q, 3, none⟩ = some (.int .i64 0) := K.out.at2.cellOf 3 rfl
    have b4 : z4.cell? ⟨q, 4, none⟩ = some (.int .i64 0) := K.out.at2.cellOf 4 rfl
    have b5 : z4.cell? ⟨q, 5, none⟩ = some (.int .u64 0) := K.out.at2.cellOf 5 rfl
    have b6 : z4.cell? ⟨q, 6, none⟩ = some (.bool false) := K.out.at2.cellOf 6 rfl
    go_wp2_with fail
    have K9 := (((((((K.out.at2.setCell (i := 0) (.int .i64 1)).setCell (i := 1) (.int .i64 (wrap64 u2))).setCell (i := 2) (.int .i64 (wrap64 u3))).setCell (i := 3) (.int .i64 (wrap64 u4))).setCell (i := 4) (.int .i64 0)).setCell (i := 5) (.int .u64 0)).setCell (i := 6) (.bool false))
    generalize World.setCell _ _ _ = w9 at K9 ⊢
    simp only [List.setIfInBounds_toArray, List.set_cons_zero, List.set_cons_succ] at K9
    have r0 : w9.cell? ⟨q, 0, none⟩ = some (.int .i64 1) := K9.cellOf 0 rfl
    have r1 : w9.cell? ⟨q, 1, none⟩ = some (.int .i64 (wrap64 u2)) := K9.cellOf 1 rfl
    have r2 : w9.cell? ⟨q, 2, none⟩ = some (.int .i64 (wrap64 u3)) := K9.cellOf 2 rfl
    have r3 : w9.cell? ⟨q, 3, none⟩ = some (.int .i64 (wrap64 u4)) := K9.cellOf 3 rfl
    have r4 : w9.cell? ⟨q, 4, none⟩ = some (.int .i64 0) := K9.cellOf 4 rfl
    have r5 : w9.cell? ⟨q, 5, none⟩ = some (.int .u64 0) := K9.cellOf 5 rfl
    have r6 : w9.cell? ⟨q, 6, none⟩ = some (.bool false) := K9.cellOf 6 rfl
    refine bodyPost_ret (v := frv (1, ((wrap64 u2), (wrap64 u3), (wrap64 u4)), 0, 0, false)) ?_ rfl ⟨v4, rfl, hV4.out, K9.tail.at1.tail⟩
    simp [results, Try.results73, go_sem, r0, r1, r2, r3, r4, r5, r6, frv]
  by_cases k2 : x1 = 2
  · subst k2
    obtain ⟨⟨u2, bs2, bad2⟩, hq2⟩ : ∃ x, rnumR 8 (bs1, bad1) = x := ⟨_, rfl⟩
    have hs2 : lngR 8 (bs1, bad1) = (wrap64 u2, (bs2, bad2)) := by unfold lngR; rw [hq2]
    have hu2 : 0 ≤ u2 := by have := (rnumR_lt 8 (bs1, bad1) hb1.out).1; rw [hq2] at this; exact this
    have hb2 : Hid (Byt bs2) := by have := good_lng.bytR (bs1, bad1) hb1.out; rw [hs2] at this; exact this
    have hres : rdFrR (bs0, bad0) = ((2, (0, 0, 0), (wrap64 u2), 0, false), (bs2, bad2)) := by rw [frR_2 (by rw [hs1]), hs1]; dsimp only; rw [hs2]
    rw [hres]
    clear hres
    replace hs2 := Lib.hid hs2
    replace hq2 := Lib.hid hq2
    replace hs1 := Lib.hid hs1
    go_enter Try.func73, Try.ntmps73
    go_upto_region 1 with (fail)
    generalize World.alloc w _ = y0 at K ⊢
    generalize w.heap.size = q at K ⊢
    go_wp2_with fail
    refine (num74 p v0 bs0 bad0 1 (by omega) _ w0 _ K.out (fun w' h => hr0.out w' h.tail) hb0.out).mono ?_
    rintro e y1 ⟨v1, rfl, hrd, K2⟩
    rw [hs1.out] at hrd K2 ⊢
    have hr1 : Hid (∀ w', Hs w0 w' R → RdL U8 w' v1 bs1) := fun w' h => hrd w' (hr0.out w' h)
    have hV1 : Hid (∀ W, RdL U8 W v0 bs0 → RdL U8 W v1 bs1) := fun W h => hrd W (h)
    replace K2 : Hid (Hs w0 y1 (Blk p (.cells #[v1, .bool bad1] 131) :: Blk q (.cells #[.int .i64 0, .int .i64 0, .int .i64 0, .int .i64 0, .int .i64 0, .int .u64 0, .bool false] 37) :: R)) := Lib.hid K2
    clear K hrd
    have K := K2
    clear K2
    have K2 := Lib.hid (K.out.alloc (.cells #[.int .i64 2, .int .i64 0, .int .i64 0, .int .i64 0, .int .i64 0, .int .u64 0, .bool false] 37)).at1
    go_upto_region 2 with (fail)
    clear K
    generalize World.alloc y1 _ = z1 at K2 ⊢
    generalize y1.heap.size = f at K2 ⊢
    have K := K2
    clear K2
    have c0 : z1.cell? ⟨f, 0, none⟩ = some (.int .i64 2) := K.out.at1.cellOf 0 rfl
    go_wp2_with fail
    refine (num74 p v1 bs1 bad1 8 (by omega) _ w0 _ K.out (fun w' h => hr1.out w' h.tail.tail) hb1.out).mono ?_
    rintro e y2 ⟨v2, rfl, hrd, K2⟩
    rw [hq2.out] at hrd K2 ⊢
    have hr2 : Hid (∀ w', Hs w0 w' R → RdL U8 w' v2 bs2) := fun w' h => hrd w' (hr1.out w' h)
    have hV2 : Hid (∀ W, RdL U8 W v0 bs0 → RdL U8 W v2 bs2) := fun W h => hrd W (hV1.out W h)
    replace K2 : Hid (Hs w0 y2 (Blk p (.cells #[v2, .bool bad2] 131) :: Blk f (.cells #[.int .i64 2, .int .i64 0, .int .i64 0, .int .i64 0, .int .i64 0, .int .u64 0, .bool false] 37) :: Blk q (.cells #[.int .i64 0, .int .i64 0, .int .i64 0, .int .i64 0, .int .i64 0, .int .u64 0, .bool false] 37) :: R)) := Lib.hid K2
    clear K hrd
    have K := K2
    clear K2
    have e4 := K.out.at1.frozenOf 4
    have d4 : y2.cell? ⟨f, 4, none⟩ = some (.int .i64 0) := K.out.at1.cellOf 4 rfl
    have K2 := Lib.hid (K.out.at1.setCell (i := 4) (.int .i64 (wrap64 u2))).at1
    go_upto_region 13 with (fail)
    clear e4 d4 K
    generalize World.setCell _ _ _ = z4 at K2 ⊢
    simp only [List.setIfInBounds_toArray, List.set_cons_zero, List.set_cons_succ] at K2
    have K := K2
    clear K2 c0
    have c0 : z4.cell? ⟨f, 0, none⟩ = some (.int .i64 2) := K.out.at1.cellOf 0 rfl
    have c1 : z4.cell? ⟨f, 1, none⟩ = some (.int .i64 0) := K.out.at1.cellOf 1 rfl
    have c2 : z4.cell? ⟨f, 2, none⟩ = some (.int .i64 0) := K.out.at1.cellOf 2 rfl
    have c3 : z4.cell? ⟨f, 3, none⟩ = some (.int .i64 0) := K.out.at1.cellOf 3 rfl
    have c4 : z4.cell? ⟨f, 4, none⟩ = some (.int .i64 (wrap64 u2)) := K.out.at1.cellOf 4 rfl
    have c5 : z4.cell? ⟨f, 5, none⟩ = some (.int .u64 0) := K.out.at1.cellOf 5 rfl
    have c6 : z4.cell? ⟨f, 6, none⟩ = some (.bool false) := K.out.at1.cellOf 6 rfl
    have g0 := K.out.at2.frozenOf 0
    have g1 := K.out.at2.frozenOf 1
    have g2 := K.out.at2.frozenOf 2
    have g3 := K.out.at2.frozenOf 3
    have g4 := K.out.at2.frozenOf 4
    have g5 := K.out.at2.frozenOf 5
    have g6 := K.out.at2.frozenOf 6
    have b0 : z4.cell? ⟨q, 0, none⟩ = some (.int .i64 0) := K.out.at2.cellOf 0 rfl
    have b1 : z4.cell? ⟨q, 1, none⟩ = some (.int .i64 0) := K.out.at2.cellOf 1 rfl
    have b2 : z4.cell? ⟨q, 2, none⟩ = some (.int .i64 0) := K.out.at2.cellOf 2 rfl
    have b3 : z4.cell? ⟨q, 3, none⟩ = some (.int .i64 0) := K.out.at2.cellOf 3 rfl
    have b4 : z4.cell? ⟨q, 4, none⟩ = some (.int .i64 0) := K.out.at2.cellOf 4 rfl
    have b5 : z4.cell? ⟨q, 5, none⟩ = some (.int .u64 0) := K.out.at2.cellOf 5 rfl
    have b6 : z4.cell? ⟨q, 6, none⟩ = some (.bool false) := K.out.at2.cellOf 6 rfl
    go_wp2_with fail
    have K9 := (((((((K.out.at2.setCell (i := 0) (.int .i64 2)).setCell (i := 1) (.int .i64 0)).setCell (i := 2) (.int .i64 0)).setCell (i := 3) (.int .i64 0)).setCell (i := 4) (.int .i64 (wrap64 u2))).setCell (i := 5) (.int .u64 0)).setCell (i := 6) (.bool false))
    generalize World.setCell _ _ _ = w9 at K9 ⊢
    simp only [List.setIfInBounds_toArray, List.set_cons_zero, List.set_cons_succ] at K9
    have r0 : w9.cell? ⟨q, 0, none⟩ = some (.int .i64 2) := K9.cellOf 0 rfl
    have r1 : w9.cell? ⟨q, 1, none⟩ = some (.int .i64 0) := K9.cellOf 1 rfl
    have r2 : w9.cell? ⟨q, 2, none⟩ = some (.int .i64 0) := K9.cellOf 2 rfl
    have r3 : w9.cell? ⟨q, 3, none⟩ = some (.int .i64 0) := K9.cellOf 3 rfl
    have r4 : w9.cell? ⟨q, 4, none⟩ = some (.int .i64 (wrap64 u2)) := K9.cellOf 4 rfl
    have r5 : w9.cell? ⟨q, 5, none⟩ = some (.int .u64 0) := K9.cellOf 5 rfl
    have r6 : w9.cell? ⟨q, 6, none⟩ = some (.bool false) := K9.cellOf 6 rfl
    refine bodyPost_ret (v := frv (2, (0, 0, 0), (wrap64 u2), 0, false)) ?_ rfl ⟨v2, rfl, hV2.out, K9.tail.at1.tail⟩
    simp [results, Try.results73, go_sem, r0, r1, r2, r3, r4, r5, r6, frv]
  by_cases k3 : x1 = 3
  · subst k3
    obtain ⟨⟨x2, bs2, bad2⟩, hs2⟩ : ∃ x, rnumR 8 (bs1, bad1) = x := ⟨_, rfl⟩
    have hb2 : Hid (Byt bs2) := by have := (good_num 8).bytR (bs1, bad1) hb1.out; rw [hs2] at this; exact this
    obtain ⟨⟨x3, bs3, bad3⟩, hs3⟩ : ∃ x, rnumR 1 (bs2, bad2) = x := ⟨_, rfl⟩
    have hb3 : Hid (Byt bs3) := by have := (good_num 1).bytR (bs2, bad2) hb2.out; rw [hs3] at this; exact this
    have hx3 : 0 ≤ x3 := by have := (rnumR_lt 1 (bs2, bad2) hb2.out).1; rw [hs3] at this; exact this
    have hres : rdFrR (bs0, bad0) = ((3, (0, 0, 0), 0, x2, x3 == 1), (bs3, bad3 || decide (1 < x3))) := by rw [frR_3 (by rw [hs1]), hs1]; unfold rdPair rdOver; dsimp only; rw [hs2]; dsimp only; rw [hs3]
    rw [hres]
    clear hres
    obtain ⟨ov, hov⟩ : ∃ b, (x3 == 1) = b := ⟨_, rfl⟩
    obtain ⟨bg, hbg⟩ : ∃ b, decide (1 < x3) = b := ⟨_, rfl⟩
    rw [hov, hbg]
    obtain ⟨bz, hbz⟩ : ∃ b, (bad3 || bg) = b := ⟨_, rfl⟩
    rw [hbz]
    replace hbz := Lib.hid hbz
    replace hs2 := Lib.hid hs2
    replace hs3 := Lib.hid hs3
    replace hs1 := Lib.hid hs1
    go_enter Try.func73, Try.ntmps73
    go_upto_region 1 with (fail)
    generalize World.alloc w _ = y0 at K ⊢
    generalize w.heap.size = q at K ⊢
    go_wp2_with fail
    refine (num74 p v0 bs0 bad0 1 (by omega) _ w0 _ K.out (fun w' h => hr0.out w' h.tail) hb0.out).mono ?_
    rintro e y1 ⟨v1, rfl, hrd, K2⟩
    rw [hs1.out] at hrd K2 ⊢
    have hr1 : Hid (∀ w', Hs w0 w' R → RdL U8 w' v1 bs1) := fun w' h => hrd w' (hr0.out w' h)
    have hV1 : Hid (∀ W, RdL U8 W v0 bs0 → RdL U8 W v1 bs1) := fun W h => hrd W (h)
    replace K2 : Hid (Hs w0 y1 (Blk p (.cells #[v1, .bool bad1] 131) :: Blk q (.cells #[.int .i64 0, .int .i64 0, .int .i64 0, .int .i64 0, .int .i64 0, .int .u64 0, .bool false] 37) :: R)) := Lib.hid K2
    clear K hrd
    have K := K2
    clear K2
    have K2 := Lib.hid (K.out.alloc (.cells #[.int .i64 3, .int .i64 0, .int .i64 0, .int .i64 0, .int .i64 0, .int .u64 0, .bool false] 37)).at1
    go_upto_region 2 with (fail)
    clear K
    generalize World.alloc y1 _ = z1 at K2 ⊢
    generalize y1.heap.size = f at K2 ⊢
    have K := K2
    clear K2
    have c0 : z1.cell? ⟨f, 0, none⟩ = some (.int .i64 3) := K.out.at1.cellOf 0 rfl
    go_wp2_with fail
    refine (num74 p v1 bs1 bad1 8 (by omega) _ w0 _ K.out (fun w' h => hr1.out w' h.tail.tail) hb1.out).mono ?_
    rintro e y2 ⟨v2, rfl, hrd, K2⟩
    rw [hs2.out] at hrd K2 ⊢
    have hr2 : Hid (∀ w', Hs w0 w' R → RdL U8 w' v2 bs2) := fun w' h => hrd w' (hr1.out w' h)
    have hV2 : Hid (∀ W, RdL U8 W v0 bs0 → RdL U8 W v2 bs2) := fun W h => hrd W (hV1.out W h)
    replace K2 : Hid (Hs w0 y2 (Blk p (.cells #[v2, .bool bad2] 131) :: Blk f (.cells #[.int .i64 3, .int .i64 0, .int .i64 0, .int .i64 0, .int .i64 0, .int .u64 0, .bool false] 37) :: Blk q (.cells #[.int .i64 0, .int .i64 0, .int .i64 0, .int .i64 0, .int .i64 0, .int .u64 0, .bool false] 37) :: R)) := Lib.hid K2
    clear K hrd
    have K := K2
    clear K2
    have e5 := K.out.at1.frozenOf 5
    have d5 : y2.cell? ⟨f, 5, none⟩ = some (.int .u64 0) := K.out.at1.cellOf 5 rfl
    have K2 := Lib.hid (K.out.at1.setCell (i := 5) (.int .u64 x2)).at1
    go_upto_region 10 with (fail)
    clear e5 d5 K
    generalize World.setCell _ _ _ = z2 at K2 ⊢
    simp only [List.setIfInBounds_toArray, List.set_cons_zero, List.set_cons_succ] at K2
    have K := K2
    clear K2 c0
    go_wp2_with fail
    refine (num74 p v2 bs2 bad2 1 (by omega) _ w0 _ K.out (fun w' h => hr2.out w' h.tail.tail) hb2.out).mono ?_
    rintro e y3 ⟨v3, rfl, hrd, K2⟩
    rw [hs3.out] at hrd K2 ⊢
    have hr3 : Hid (∀ w', Hs w0 w' R → RdL U8 w' v3 bs3) := fun w' h => hrd w' (hr2.out w' h)
    have hV3 : Hid (∀ W, RdL U8 W v0 bs0 → RdL U8 W v3 bs3) := fun W h => hrd W (hV2.out W h)
    replace K2 : Hid (Hs w0 y3 (Blk p (.cells #[v3, .bool bad3] 131) :: Blk f (.cells #[.int .i64 3, .int .i64 0, .int .i64 0, .int .i64 0, .int .i64 0, .int .u64 x2, .bool false] 37) :: Blk q (.cells #[.int .i64 0, .int .i64 0, .int .i64 0, .int .i64 0, .int .i64 0, .int .u64 0, .bool false] 37) :: R)) := Lib.hid K2
    clear K hrd
    have K := K2
    clear K2
    have e6 := K.out.at1.frozenOf 6
    have d6 : y3.cell? ⟨f, 6, none⟩ = some (.bool false) := K.out.at1.cellOf 6 rfl
    have K2 := Lib.hid (K.out.at1.setCell (i := 6) (.bool ov)).at1
    go_upto_region 12 with (fail)
    clear e6 d6 K
    generalize World.setCell _ _ _ = z3 at K2 ⊢
    simp only [List.setIfInBounds_toArray, List.set_cons_zero, List.set_cons_succ] at K2
    have K := K2
    clear K2 hov
    have d1 : z3.cell? ⟨p, 1, none⟩ = some (.bool bad3) := K.out.cellOf 1 rfl
    have e1 := K.out.frozenOf 1
    have K2 := Lib.hid (K.out.setCell (i := 1) (.bool bz))
    simp only [List.setIfInBounds_toArray, List.set_cons_zero, List.set_cons_succ] at K2
    cases bad3 with
    | true =>
      obtain rfl : bz = true := by rw [← hbz.out]; rfl
      go_upto_region 13 with (fail)
      clear d1 e1 K
      generalize World.setCell _ _ _ = z4 at K2 ⊢
      have K := K2
      clear K2
      have c0 : z4.cell? ⟨f, 0, none⟩ = some (.int .i64 3) := K.out.at1.cellOf 0 rfl
      have c1 : z4.cell? ⟨f, 1, none⟩ = some (.int .i64 0) := K.out.at1.cellOf 1 rfl
      have c2 : z4.cell? ⟨f, 2, none⟩ = some (.int .i64 0) := K.out.at1.cellOf 2 rfl
      have c3 : z4.cell? ⟨f, 3, none⟩ = some (.int .i64 0) := K.out.at1.cellOf 3 rfl
      have c4 : z4.cell? ⟨f, 4, none⟩ = some (.int .i64 0) := K.out.at1.cellOf 4 rfl
      have c5 : z4.cell? ⟨f, 5, none⟩ = some (.int .u64 x2) := K.out.at1.cellOf 5 rfl
      have c6 : z4.cell? ⟨f, 6, none⟩ = some (.bool ov) := K.out.at1.cellOf 6 rfl
      have g0 := K.out.at2.frozenOf 0
      have g1 := K.out.at2.frozenOf 1
      have g2 := K.out.at2.frozenOf 2
      have g3 := K.out.at2.frozenOf 3
      have g4 := K.out.at2.frozenOf 4
      have g5 := K.out.at2.frozenOf 5
      have g6 := K.out.at2.frozenOf 6
      have b0 : z4.cell? ⟨q, 0, none⟩ = some (.int .i64 0) := K.out.at2.cellOf 0 rfl
      have b1 : z4.cell? ⟨q, 1, none⟩ = some (.int .i64 0) := K.out.at2.cellOf 1 rfl
      have b2 : z4.cell? ⟨q, 2, none⟩ = some (.int .i64 0) := K.out.at2.cellOf 2 rfl
      have b3 : z4.cell? ⟨q, 3, none⟩ = some (.int .i64 0) := K.out.at2.cellOf 3 rfl
      have b4 : z4.cell? ⟨q, 4, none⟩ = some (.int .i64 0) := K.out.at2.cellOf 4 rfl
      have b5 : z4.cell? ⟨q, 5, none⟩ = some (.int .u64 0) := K.out.at2.cellOf 5 rfl
      have b6 : z4.cell? ⟨q, 6, none⟩ = some (.bool false) := K.out.at2.cellOf 6 rfl
      go_wp2_with fail
      have K9 := (((((((K.out.at2.setCell (i := 0) (.int .i64 3)).setCell (i := 1) (.int .i64 0)).setCell (i := 2) (.int .i64 0)).setCell (i := 3) (.int .i64 0)).setCell (i := 4) (.int .i64 0)).setCell (i := 5) (.int .u64 x2)).setCell (i := 6) (.bool ov))
      generalize World.setCell _ _ _ = w9 at K9 ⊢
      simp only [List.setIfInBounds_toArray, List.set_cons_zero, List.set_cons_succ] at K9
      have r0 : w9.cell? ⟨q, 0, none⟩ = some (.int .i64 3) := K9.cellOf 0 rfl
      have r1 : w9.cell? ⟨q, 1, none⟩ = some (.int .i64 0) := K9.cellOf 1 rfl
      have r2 : w9.cell? ⟨q, 2, none⟩ = some (.int .i64 0) := K9.cellOf 2 rfl
      have r3 : w9.cell? ⟨q, 3, none⟩ = some (.int .i64 0) := K9.cellOf 3 rfl
      have r4 : w9.cell? ⟨q, 4, none⟩ = some (.int .i64 0) := K9.cellOf 4 rfl
      have r5 : w9.cell? ⟨q, 5, none⟩ = some (.int .u64 x2) := K9.cellOf 5 rfl
      have r6 : w9.cell? ⟨q, 6, none⟩ = some (.bool ov) := K9.cellOf 6 rfl
      refine bodyPost_ret (v := frv (3, (0, 0, 0), 0, x2, ov)) ?_ rfl ⟨v3, rfl, hV3.out, K9.tail.at1.tail⟩
      simp [results, Try.results73, go_sem, r0, r1, r2, r3, r4, r5, r6, frv]
    | false =>
      obtain rfl : bz = bg := by rw [← hbz.out]; rfl
      go_upto_region 13 with (fail)
      clear d1 e1 K
      generalize World.setCell _ _ _ = z4 at K2 ⊢
      have K := K2
      clear K2
      have c0 : z4.cell? ⟨f, 0, none⟩ = some (.int .i64 3) := K.out.at1.cellOf 0 rfl
      have c1 : z4.cell? ⟨f, 1, none⟩ = some (.int .i64 0) := K.out.at1.cellOf 1 rfl
      have c2 : z4.cell? ⟨f, 2, none⟩ = some (.int .i64 0) := K.out.at1.cellOf 2 rfl
      have c3 : z4.cell? ⟨f, 3, none⟩ = some (.int .i64 0) := K.out.at1.cellOf 3 rfl
      have c4 : z4.cell? ⟨f, 4, none⟩ = some (.int .i64 0) := K.out.at1.cellOf 4 rfl
      have c5 : z4.cell? ⟨f, 5, none⟩ = some (.int .u64 x2) := K.out.at1.cellOf 5 rfl
      have c6 : z4.cell? ⟨f, 6, none⟩ = some (.bool ov) := K.out.at1.cellOf 6 rfl
      have g0 := K.out.at2.frozenOf 0
      have g1 := K.out.at2.frozenOf 1
      have g2 := K.out.at2.frozenOf 2
      have g3 := K.out.at2.frozenOf 3
      have g4 := K.out.at2.frozenOf 4
      have g5 := K.out.at2.frozenOf 5
      have g6 := K.out.at2.frozenOf 6
      have b0 : z4.cell? ⟨q, 0, none⟩ = some (.int .i64 0) := K.out.at2.cellOf 0 rfl
      have b1 : z4.cell? ⟨q, 1, none⟩ = some (.int .i64 0) := K.out.at2.cellOf 1 rfl
      have b2 : z4.cell? ⟨q, 2, none⟩ = some (.int .i64 0) := K.out.at2.cellOf 2 rfl
      have b3 : z4.cell? ⟨q, 3, none⟩ = some (.int .i64 0) := K.out.at2.cellOf 3 rfl
      have b4 : z4.cell? ⟨q, 4, none⟩ = some (.int .i64 0) := K.out.at2.cellOf 4 rfl
      have b5 : z4.cell? ⟨q, 5, none⟩ = some (.int .u64 0) := K.out.at2.cellOf 5 rfl
      have b6 : z4.cell? ⟨q, 6, none⟩ = some (.bool false) := K.out.at2.cellOf 6 rfl
      go_wp2_with fail
      have K9 := (((((((K.out.at2.setCell (i := 0) (.int .i64 3)).setCell (i := 1) (.int .i64 0)).setCell (i := 2) (.int .i64 0)).setCell (i := 3) (.int .i64 0)).setCell (i := 4) (.int .i64 0)).setCell (i := 5) (.int .u64 x2)).setCell (i := 6) (.bool ov))
      generalize World.setCell _ _ _ = w9 at K9 ⊢
      simp only [List.setIfInBounds_toArray, List.set_cons_zero, List.set_cons_succ] at K9
      have r0 : w9.cell? ⟨q, 0, none⟩ = some (.int .i64 3) := K9.cellOf 0 rfl
      have r1 : w9.cell? ⟨q, 1, none⟩ = some (.int .i64 0) := K9.cellOf 1 rfl
      have r2 : w9.cell? ⟨q, 2, none⟩ = some (.int .i64 0) := K9.cellOf 2 rfl
      have r3 : w9.cell? ⟨q, 3, none⟩ = some (.int .i64 0) := K9.cellOf 3 rfl
      have r4 : w9.cell? ⟨q, 4, none⟩ = some (.int .i64 0) := K9.cellOf 4 rfl
      have r5 : w9.cell? ⟨q, 5, none⟩ = some (.int .u64 x2) := K9.cellOf 5 rfl
      have r6 : w9.cell? ⟨q, 6, none⟩ = some (.bool ov) := K9.cellOf 6 rfl
      refine bodyPost_ret (v := frv (3, (0, 0, 0), 0, x2, ov)) ?_ rfl ⟨v3, rfl, hV3.out, K9.tail.at1.tail⟩
      simp [results, Try.results73, go_sem, r0, r1, r2, r3, r4, r5, r6, frv]
  · have hres : rdFrR (bs0, bad0) = ((x1, (0, 0, 0), 0, 0, false), (bs1, true)) := by rw [frR_4 (by rw [hs1]; exact k1) (by rw [hs1]; exact k2) (by rw [hs1]; exact k3), hs1]
    rw [hres]
    clear hres
    have a1 : (x1 == 1) = false := by rw [beq_eq_false_iff_ne]; exact k1
    have a2 : (x1 == 2) = false := by rw [beq_eq_false_iff_ne]; exact k2
    have a3 : (x1 == 3) = false := by rw [beq_eq_false_iff_ne]; exact k3
    clear k1 k2 k3
    replace hs1 := Lib.hid hs1
    go_enter Try.func73, Try.ntmps73
    go_upto_region 1 with (fail)
    generalize World.alloc w _ = y0 at K ⊢
    generalize w.heap.size = q at K ⊢
    go_wp2_with fail
    refine (num74 p v0 bs0 bad0 1 (by omega) _ w0 _ K.out (fun w' h => hr0.out w' h.tail) hb0.out).mono ?_
    rintro e y1 ⟨v1, rfl, hrd, K2⟩
    rw [hs1.out] at hrd K2 ⊢
    have hr1 : Hid (∀ w', Hs w0 w' R → RdL U8 w' v1 bs1) := fun w' h => hrd w' (hr0.out w' h)
    have hV1 : Hid (∀ W, RdL U8 W v0 bs0 → RdL U8 W v1 bs1) := fun W h => hrd W (h)
    replace K2 : Hid (Hs w0 y1 (Blk p (.cells #[v1, .bool bad1] 131) :: Blk q (.cells #[.int .i64 0, .int .i64 0, .int .i64 0, .int .i64 0, .int .i64 0, .int .u64 0, .bool false] 37) :: R)) := Lib.hid K2
    clear K hrd
    have K := K2
    clear K2
    have K2 := Lib.hid (K.out.alloc (.cells #[.int .i64 x1, .int .i64 0, .int .i64 0, .int .i64 0, .int .i64 0, .int .u64 0, .bool false] 37)).at1
    go_upto_region 2 with (fail)
    clear K
    generalize World.alloc y1 _ = z1 at K2 ⊢
    generalize y1.heap.size = f at K2 ⊢
    have K := K2
    clear K2
    have c0 : z1.cell? ⟨f, 0, none⟩ = some (.int .i64 x1) := K.out.at1.cellOf 0 rfl
    have d1 : z1.cell? ⟨p, 1, none⟩ = some (.bool bad1) := K.out.cellOf 1 rfl
    have e1 := K.out.frozenOf 1
    have K2 := Lib.hid (K.out.setCell (i := 1) (.bool true))
    simp only [List.setIfInBounds_toArray, List.set_cons_zero, List.set_cons_succ] at K2
    go_upto_region 13 with (fail)
    clear d1 e1 K
    generalize World.setCell _ _ _ = z4 at K2 ⊢
    have K := K2
    clear K2
    have c0 : z4.cell? ⟨f, 0, none⟩ = some (.int .i64 x1) := K.out.at1.cellOf 0 rfl
    have c1 : z4.cell? ⟨f, 1, none⟩ = some (.int .i64 0) := K.out.at1.cellOf 1 rfl
    have c2 : z4.cell? ⟨f, 2, none⟩ = some (.int .i64 0) := K.out.at1.cellOf 2 rfl
    have c3 : z4.cell? ⟨f, 3, none⟩ = some (.int .i64 0) := K.out.at1.cellOf 3 rfl
    have c4 : z4.cell? ⟨f, 4, none⟩ = some (.int .i64 0) := K.out.at1.cellOf 4 rfl
    have c5 : z4.cell? ⟨f, 5, none⟩ = some (.int .u64 0) := K.out.at1.cellOf 5 rfl
    have c6 : z4.cell? ⟨f, 6, none⟩ = some (.bool false) := K.out.at1.cellOf 6 rfl
    have g0 := K.out.at2.frozenOf 0
    have g1 := K.out.at2.frozenOf 1
    have g2 := K.out.at2.frozenOf 2
    have g3 := K.out.at2.frozenOf 3
    have g4 := K.out.at2.frozenOf 4
    have g5 := K.out.at2.frozenOf 5
    have g6 := K.out.at2.frozenOf 6
    have b0 : z4.cell? ⟨q, 0, none⟩ = some (.int .i64 0) := K.out.at2.cellOf 0 rfl
    have b1 : z4.cell? ⟨q, 1, none⟩ = some (.int .i64 0) := K.out.at2.cellOf 1 rfl
    have b2 : z4.cell? ⟨q, 2, none⟩ = some (.int .i64 0) := K.out.at2.cellOf 2 rfl
    have b3 : z4.cell? ⟨q, 3, none⟩ = some (.int .i64 0) := K.out.at2.cellOf 3 rfl
    have b4 : z4.cell? ⟨q, 4, none⟩ = some (.int .i64 0) := K.out.at2.cellOf 4 rfl
    have b5 : z4.cell? ⟨q, 5, none⟩ = some (.int .u64 0) := K.out.at2.cellOf 5 rfl
    have b6 : z4.cell? ⟨q, 6, none⟩ = some (.bool false) := K.out.at2.cellOf 6 rfl
    go_wp2_with fail
    have K9 := (((((((K.out.at2.setCell (i := 0) (.int .i64 x1)).setCell (i := 1) (.int .i64 0)).setCell (i := 2) (.int .i64 0)).setCell (i := 3) (.int .i64 0)).setCell (i := 4) (.int .i64 0)).setCell (i := 5) (.int .u64 0)).setCell (i := 6) (.bool false))
    generalize World.setCell _ _ _ = w9 at K9 ⊢
    simp only [List.setIfInBounds_toArray, List.set_cons_zero, List.set_cons_succ] at K9
    have r0 : w9.cell? ⟨q, 0, none⟩ = some (.int .i64 x1) := K9.cellOf 0 rfl
    have r1 : w9.cell? ⟨q, 1, none⟩ = some (.int .i64 0) := K9.cellOf 1 rfl
    have r2 : w9.cell? ⟨q, 2, none⟩ = some (.int .i64 0) := K9.cellOf 2 rfl
    have r3 : w9.cell? ⟨q, 3, none⟩ = some (.int .i64 0) := K9.cellOf 3 rfl
    have r4 : w9.cell? ⟨q, 4, none⟩ = some (.int .i64 0) := K9.cellOf 4 rfl
    have r5 : w9.cell? ⟨q, 5, none⟩ = some (.int .u64 0) := K9.cellOf 5 rfl
    have r6 : w9.cell? ⟨q, 6, none⟩ = some (.bool false) := K9.cellOf 6 rfl
    refine bodyPost_ret (v := frv (x1, (0, 0, 0), 0, 0, false)) ?_ rfl ⟨v1, rfl, hV1.out, K9.tail.at1.tail⟩
    simp [results, Try.results73, go_sem, r0, r1, r2, r3, r4, r5, r6, frv]
end Go.Proofs.Ytjdkpogkhecijaa

import Derived.Test.YtjdkpogkhecijaaTb
import Derived.Test.YtjdkpogkhecijaaFc
import Derived.Test.YtjdkpogkhecijaaUb
import Derived.IntWalk
import Derived.Test.YtjdkpogkhecijaaProg
import Derived.Test.YtjdkpogkhecijaaLs
import Derived.Outline
import Derived.StillTailTactics
import Derived.Deep.DeepCutAuto
import Derived.Deep.CutBlock
import Derived.Deep.LoopGhost
import Derived.Deep.QuietTactic
import Derived.BigQuiet
import Derived.Deep.RegionHeld3
import Derived.Deep.RegionLaw
set_option linter.unusedVariables false
set_option linter.unusedSimpArgs false
namespace Go.Proofs.Ytjdkpogkhecijaa
open Go.RowKit
set_option maxRecDepth 100000 in
set_option maxHeartbeats 1600000 in
theorem pane70 (p : Nat) (v0 : Value) (bs0 : List Int) (bad0 : Bool) (w w0 : World) (R : List HP) (H : Hs w0 w (Blk p (.cells #[v0, .bool bad0] 90) :: R)) (hr : ∀ w', Hs w0 w' R → RdL U8 w' v0 bs0) (hb : Byt bs0) :
    Calls Try.prog 70 #[.pointer (some ⟨p, 0, none⟩)] w (RdPost v0 bs0 p 90 w0 R (.agg (pnc (rdPn (bs0, bad0)).1)) (rdPn (bs0, bad0)).2) := by
  have K := (H.alloc (.cells #[.int .i64 0, .int .i64 0, .int .i64 0, .int .i64 0] 106)).at1
  obtain ⟨⟨k, bs1, bad1⟩, hs1⟩ : ∃ x, lng 8 (bs0, bad0) = x := ⟨_, rfl⟩
  have hb1 : Hid (Byt bs1) := by have := good_lng.byt (bs0, bad0) hb; rw [hs1] at this; exact this
  obtain ⟨⟨f, bs2, bad2⟩, hs2⟩ : ∃ x, lng 8 (bs1, bad1) = x := ⟨_, rfl⟩
  have hb2 : Hid (Byt bs2) := by have := good_lng.byt (bs1, bad1) hb1.out; rw [hs2] at this; exact this
  obtain ⟨⟨t, bs3, bad3⟩, hs3⟩ : ∃ x, lng 8 (bs2, bad2) = x := ⟨_, rfl⟩
  have hb3 : Hid (Byt bs3) := by have := good_lng.byt (bs2, bad2) hb2.out; rw [hs3] at this; exact this
  obtain ⟨⟨a, bs4, bad4⟩, hs4⟩ : ∃ x, lng 8 (bs3, bad3) = x := ⟨_, rfl⟩
  have hb4 : Hid (Byt bs4) := by have := good_lng.byt (bs3, bad3) hb3.out; rw [hs4] at this; exact this
  have hx : rdPn (bs0, bad0) = ((k, (f, t), a), (bs4, bad4)) := by unfold rdPn rdPair; dsimp only; rw [hs1]; dsimp only; rw [hs2]; dsimp only; rw [hs3]; dsimp only; rw [hs4]
  rw [hx]
  have hV0 := Lib.hid hr
  have hW0 : Hid (∀ W, RdL U8 W v0 bs0 → RdL U8 W v0 bs0) := fun _ h => h
  have hb0 := Lib.hid hb
  clear hx hr hb H
  replace hs1 := Lib.hid hs1
  replace hs2 := Lib.hid hs2
  replace hs3 := Lib.hid hs3
  replace hs4 := Lib.hid hs4
  replace K := Lib.hid K
  show Calls Try.prog 70 #[.pointer (some ⟨p, 0, none⟩)] w (RdPost v0 bs0 p 90 w0 R (.agg #[.int .i64 k, .int .i64 f, .int .i64 t, .int .i64 a]) (bs4, bad4))
  go_enter Try.func70, Try.ntmps70
  go_upto_region 1 with (fail)
  generalize World.alloc _ _ = w1 at K ⊢
  generalize w.heap.size = q at K ⊢
  go_wp2_with fail
  refine (long67 p v0 bs0 bad0 _ w0 _ K.out (fun w' h => hV0.out w' h.tail) hb0.out).mono ?_
  rintro e y1 ⟨v1, rfl, hrd, K2⟩
  rw [hs1.out] at hrd K2 ⊢
  have hV1 : Hid (∀ w', Hs w0 w' R → RdL U8 w' v1 bs1) := fun w' h => hrd w' (hV0.out w' h)
  have hW1 : Hid (∀ W, RdL U8 W v0 bs0 → RdL U8 W v1 bs1) := fun W h => hrd W (hW0.out W h)
  dsimp only at hrd K2 ⊢
  replace K2 := Lib.hid K2
  have K3 := Lib.hid (K2.out.alloc (.cells #[.int .i64 k, .int .i64 0, .int .i64 0, .int .i64 0] 106)).at1
  clear K hrd K2
  go_upto_region 2 with (fail)
  generalize World.alloc y1 _ = w2 at K3 ⊢
  generalize y1.heap.size = c at K3 ⊢
  go_wp2_with fail
  refine (long67 p v1 bs1 bad1 _ w0 _ K3.out (fun w' h => hV1.out w' h.tail.tail) hb1.out).mono ?_
  rintro e y2 ⟨v2, rfl, hrd, K4⟩
  rw [hs2.out] at hrd K4 ⊢
  have hV2 : Hid (∀ w', Hs w0 w' R → RdL U8 w' v2 bs2) := fun w' h => hrd w' (hV1.out w' h)
  have hW2 : Hid (∀ W, RdL U8 W v0 bs0 → RdL U8 W v2 bs2) := fun W h => hrd W (hW1.out W h)
  dsimp only at hrd K4 ⊢
  replace K4 := Lib.hid K4
  clear K3 hrd
  go_wp2_with fail
  refine (long67 p v2 bs2 bad2 _ w0 _ K4.out (fun w' h => hV2.out w' h.tail.tail) hb2.out).mono ?_
  rintro e y3 ⟨v3, rfl, hrd, K5⟩
  rw [hs3.out] at hrd K5 ⊢
  have hV3 : Hid (∀ w', Hs w0 w' R → RdL U8 w' v3 bs3) := fun w' h => hrd w' (hV2.out w' h)
  have hW3 : Hid (∀ W, RdL U8 W v0 bs0 → RdL U8 W v3 bs3) := fun W h => hrd W (hW2.out W h)
  dsimp only at hrd K5 ⊢
  replace K5 := Lib.hid K5
  have d1 : y3.cell? ⟨c, 1, none⟩ = some (.int .i64 0) := K5.out.at1.cellOf 1 rfl
  have e1 := K5.out.at1.frozenOf 1
  have d2 : y3.cell? ⟨c, 2, none⟩ = some (.int .i64 0) := K5.out.at1.cellOf 2 rfl
  have e2 := K5.out.at1.frozenOf 2
  have K6 := Lib.hid ((K5.out.at1.setCell (i := 1) (.int .i64 f)).setCell (i := 2) (.int .i64 t)).at1
  simp only [List.setIfInBounds_toArray, List.set_cons_zero, List.set_cons_succ] at K6
  go_upto_region 3 with (fail)
  clear d1 d2 e1 e2 K4 K5 hrd
  generalize World.setCell _ _ _ = w3 at K6 ⊢
  go_wp2_with fail
  refine (long67 p v3 bs3 bad3 _ w0 _ K6.out (fun w' h => hV3.out w' h.tail.tail) hb3.out).mono ?_
  rintro e y4 ⟨v4, rfl, hrd, K7⟩
  rw [hs4.out] at hrd K7 ⊢
  have hV4 : Hid (∀ w', Hs w0 w' R → RdL U8 w' v4 bs4) := fun w' h => hrd w' (hV3.out w' h)
  have hW4 : Hid (∀ W, RdL U8 W v0 bs0 → RdL U8 W v4 bs4) := fun W h => hrd W (hW3.out W h)
  dsimp only at hrd K7 ⊢
  replace K7 := Lib.hid K7
  have d1 : y4.cell? ⟨c, 3, none⟩ = some (.int .i64 0) := K7.out.at1.cellOf 3 rfl
  have e1 := K7.out.at1.frozenOf 3
  have K8 := Lib.hid (K7.out.at1.setCell (i := 3) (.int .i64 a))
  simp only [List.setIfInBounds_toArray, List.set_cons_zero, List.set_cons_succ] at K8
  go_upto_region 4 with (fail)
  clear d1 e1 K6 K7 hrd
  generalize World.setCell _ _ _ = w4 at K8 ⊢
  have c0_ : w4.cell? ⟨c, 0, none⟩ = some (.int .i64 k) := K8.out.cellOf 0 rfl
  have c1_ : w4.cell? ⟨c, 1, none⟩ = some (.int .i64 f) := K8.out.cellOf 1 rfl
  have c2_ : w4.cell? ⟨c, 2, none⟩ = some (.int .i64 t) := K8.out.cellOf 2 rfl
  have c3_ : w4.cell? ⟨c, 3, none⟩ = some (.int .i64 a) := K8.out.cellOf 3 rfl
  have b0_ : w4.cell? ⟨q, 0, none⟩ = some (.int .i64 0) := K8.out.at2.cellOf 0 rfl
  have b1_ : w4.cell? ⟨q, 1, none⟩ = some (.int .i64 0) := K8.out.at2.cellOf 1 rfl
  have b2_ : w4.cell? ⟨q, 2, none⟩ = some (.int .i64 0) := K8.out.at2.cellOf 2 rfl
  have b3_ : w4.cell? ⟨q, 3, none⟩ = some (.int .i64 0) := K8.out.at2.cellOf 3 rfl
  have g0_ := K8.out.at2.frozenOf 0
  have g1_ := K8.out.at2.frozenOf 1
  have g2_ := K8.out.at2.frozenOf 2
  have g3_ := K8.out.at2.frozenOf 3
  go_wp2_with fail
  have K9 := ((((K8.out.at2.setCell (i := 0) (.int .i64 k)).setCell (i := 1) (.int .i64 f)).setCell (i := 2) (.int .i64 t)).setCell (i := 3) (.int .i64 a))
  generalize World.setCell _ _ _ = w9 at K9 ⊢
  simp only [List.setIfInBounds_toArray, List.set_cons_zero, List.set_cons_succ] at K9
  have r0_ : w9.cell? ⟨q, 0, none⟩ = some (.int .i64 k) := K9.cellOf 0 rfl
  have r1_ : w9.cell? ⟨q, 1, none⟩ = some (.int .i64 f) := K9.cellOf 1 rfl
  have r2_ : w9.cell? ⟨q, 2, none⟩ = some (.int .i64 t) := K9.cellOf 2 rfl
  have r3_ : w9.cell? ⟨q, 3, none⟩ = some (.int .i64 a) := K9.cellOf 3 rfl
  refine bodyPost_ret (v := .agg #[.int .i64 k, .int .i64 f, .int .i64 t, .int .i64 a]) ?_ rfl ⟨v4, rfl, hW4.out, K9.tail.tail⟩
  simp [results, Try.results70, go_sem, r0_, r1_, r2_, r3_]
set_option maxRecDepth 100000 in
set_option maxHeartbeats 1600000 in
theorem out72 (p : Nat) (v0 : Value) (bs0 : List Int) (bad0 : Bool) (w w0 : World) (R : List HP) (H : Hs w0 w (Blk p (.cells #[v0, .bool bad0] 90) :: R)) (hr : ∀ w', Hs w0 w' R → RdL U8 w' v0 bs0) (hb : Byt bs0) :
    Calls Try.prog 72 #[.pointer (some ⟨p, 0, none⟩)] w (RdPost v0 bs0 p 90 w0 R (.agg (otc (rdOt (bs0, bad0)).1)) (rdOt (bs0, bad0)).2) := by
  have K := (H.alloc (.cells #[.int .i64 0, .int .i64 0, .int .i64 0, .int .i64 0, .int .i64 0, .int .i64 0, .int .u64 0, .bool false] 97)).at1
  have hc := rnum_lt 2 (bs0, bad0) hb
  rw [show (256 : Int) ^ 2 = 65536 from rfl] at hc
  obtain ⟨⟨ch, bs1, bad1⟩, hs1⟩ : ∃ x, rnum 2 (bs0, bad0) = x := ⟨_, rfl⟩
  have hb1 : Hid (Byt bs1) := by have := (good_num 2).byt (bs0, bad0) hb; rw [hs1] at this; exact this
  obtain ⟨⟨⟨k, ⟨r1, r2, r3⟩, mr, nn, o⟩, bs2, bad2⟩, hs2⟩ : ∃ x, rdFr (bs1, bad1) = x := ⟨_, rfl⟩
  have hb2 : Hid (Byt bs2) := by have := good_frame.byt (bs1, bad1) hb1.out; rw [hs2] at this; exact this
  have hx : rdOt (bs0, bad0) = ((ch, k, (r1, r2, r3), mr, nn, o), (bs2, bad2)) := by unfold rdOt rdPair; rw [hs1]; dsimp only; rw [hs2]
  rw [hx]
  rw [hs1] at hc
  obtain ⟨hc0, hc1⟩ := hc
  dsimp only at hc0 hc1
  have hwc : IntKind.i64.wrap ch = ch := IntWalk.i64_in _ (by omega)
  have hV0 := Lib.hid hr
  have hW0 : Hid (∀ W, RdL U8 W v0 bs0 → RdL U8 W v0 bs0) := fun _ h => h
  have hb0 := Lib.hid hb
  clear hx hr hb H
  replace hs1 := Lib.hid hs1
  replace hs2 := Lib.hid hs2
  replace K := Lib.hid K
  show Calls Try.prog 72 #[.pointer (some ⟨p, 0, none⟩)] w (RdPost v0 bs0 p 90 w0 R (.agg #[.int .i64 ch, .int .i64 k, .int .i64 r1, .int .i64 r2, .int .i64 r3, .int .i64 mr, .int .u64 nn, .bool o]) (bs2, bad2))
  go_enter Try.func72, Try.ntmps72
  go_upto_region 1 with (fail)
  generalize World.alloc _ _ = w1 at K ⊢
  generalize w.heap.size = q at K ⊢
  go_wp2_with fail
  refine (number42 p v0 bs0 bad0 2 (by omega) _ w0 _ K.out (fun w' h => hV0.out w' h.tail) hb0.out).mono ?_
  rintro e y1 ⟨v1, rfl, hrd, K2⟩
  rw [hs1.out] at hrd K2 ⊢
  have hV1 : Hid (∀ w', Hs w0 w' R → RdL U8 w' v1 bs1) := fun w' h => hrd w' (hV0.out w' h)
  have hW1 : Hid (∀ W, RdL U8 W v0 bs0 → RdL U8 W v1 bs1) := fun W h => hrd W (hW0.out W h)
  dsimp only at hrd K2 ⊢
  replace K2 := Lib.hid K2
  clear K hrd
  go_wp2_with fail
  refine (frame46 p v1 bs1 bad1 _ w0 _ K2.out (fun w' h => hV1.out w' h.tail) hb1.out).mono ?_
  rintro e y2 ⟨v2, rfl, hrd, K3⟩
  rw [hs2.out] at hrd K3 ⊢
  have hV2 : Hid (∀ w', Hs w0 w' R → RdL U8 w' v2 bs2) := fun w' h => hrd w' (hV1.out w' h)
  have hW2 : Hid (∀ W, RdL U8 W v0 bs0 → RdL U8 W v2 bs2) := fun W h => hrd W (hW1.out W h)
  dsimp only [frv, frc] at hrd K3 ⊢
  replace K3 := Lib.hid K3
  clear K2 hrd
  have b0_ : y2.cell? ⟨q, 0, none⟩ = some (.int .i64 0) := K3.out.at1.cellOf 0 rfl
  have b1_ : y2.cell? ⟨q, 1, none⟩ = some (.int .i64 0) := K3.out.at1.cellOf 1 rfl
  have b2_ : y2.cell? ⟨q, 2, none⟩ = some (.int .i64 0) := K3.out.at1.cellOf 2 rfl
  have b3_ : y2.cell? ⟨q, 3, none⟩ = some (.int .i64 0) := K3.out.at1.cellOf 3 rfl
  have b4_ : y2.cell? ⟨q, 4, none⟩ = some (.int .i64 0) := K3.out.at1.cellOf 4 rfl
  have b5_ : y2.cell? ⟨q, 5, none⟩ = some (.int .i64 0) := K3.out.at1.cellOf 5 rfl
  have b6_ : y2.cell? ⟨q, 6, none⟩ = some (.int .u64 0) := K3.out.at1.cellOf 6 rfl
  have b7_ : y2.cell? ⟨q, 7, none⟩ = some (.bool false) := K3.out.at1.cellOf 7 rfl
  have g0_ := K3.out.at1.frozenOf 0
  have g1_ := K3.out.at1.frozenOf 1
  have g2_ := K3.out.at1.frozenOf 2
  have g3_ := K3.out.at1.frozenOf 3
  have g4_ := K3.out.at1.frozenOf 4
  have g5_ := K3.out.at1.frozenOf 5
  have g6_ := K3.out.at1.frozenOf 6
  have g7_ := K3.out.at1.frozenOf 7
  go_wp2_with fail
  have K9 := ((((((((K3.out.at1.setCell (i := 0) (.int .i64 ch)).setCell (i := 1) (.int .i64 k)).setCell (i := 2) (.int .i64 r1)).setCell (i := 3) (.int .i64 r2)).setCell (i := 4) (.int .i64 r3)).setCell (i := 5) (.int .i64 mr)).setCell (i := 6) (.int .u64 nn)).setCell (i := 7) (.bool o))
  generalize World.setCell _ _ _ = w9 at K9 ⊢
  simp only [List.setIfInBounds_toArray, List.set_cons_zero, List.set_cons_succ] at K9
  have r0_ : w9.cell? ⟨q, 0, none⟩ = some (.int .i64 ch) := K9.cellOf 0 rfl
  have r1_ : w9.cell? ⟨q, 1, none⟩ = some (.int .i64 k) := K9.cellOf 1 rfl
  have r2_ : w9.cell? ⟨q, 2, none⟩ = some (.int .i64 r1) := K9.cellOf 2 rfl
  have r3_ : w9.cell? ⟨q, 3, none⟩ = some (.int .i64 r2) := K9.cellOf 3 rfl
  have r4_ : w9.cell? ⟨q, 4, none⟩ = some (.int .i64 r3) := K9.cellOf 4 rfl
  have r5_ : w9.cell? ⟨q, 5, none⟩ = some (.int .i64 mr) := K9.cellOf 5 rfl
  have r6_ : w9.cell? ⟨q, 6, none⟩ = some (.int .u64 nn) := K9.cellOf 6 rfl
  have r7_ : w9.cell? ⟨q, 7, none⟩ = some (.bool o) := K9.cellOf 7 rfl
  refine bodyPost_ret (v := .agg #[.int .i64 ch, .int .i64 k, .int .i64 r1, .int .i64 r2, .int .i64 r3, .int .i64 mr, .int .u64 nn, .bool o]) ?_ rfl ⟨v2, rfl, hW2.out, K9.tail⟩
  simp [results, Try.results72, go_sem, r0_, r1_, r2_, r3_, r4_, r5_, r6_, r7_]
theorem infoTh68 : (Try.prog.info? 2).map (fun i => (i.zero, i.size, i.bytes)) = some (some (.int .i64 0), 1, 8) := by kernel_rfl
set_option maxRecDepth 100000 in
set_option maxHeartbeats 1600000 in
theorem things68 (p : Nat) (v0 : Value) (bs0 : List Int) (bad0 : Bool) (w w0 : World) (R : List HP) (H : Hs w0 w (Blk p (.cells #[v0, .bool bad0] 90) :: R)) (hr : ∀ w', Hs w0 w' R → RdL U8 w' v0 bs0) (hb : Byt bs0) :
    Calls Try.prog 68 #[.pointer (some ⟨p, 0, none⟩), .func (.func 67) #[] #[]] w (TPost (Enc.num .i64) 2 v0 bs0 p w0 R (rdList (lng 8) (bs0, bad0)).1 (rdList (lng 8) (bs0, bad0)).2) := by
  have hr0 := Lib.hid hr
  have hb0 := Lib.hid hb
  have b1 := (good_num 2).byt (bs0, bad0) hb
  have hk := rnum_lt 2 (bs0, bad0) hb
  have hX0 : rdList (lng 8) (bs0, bad0) = thg (lng 8) (rnum 2 (bs0, bad0)).1.toNat (rnum 2 (bs0, bad0)).2 [] := rfl
  obtain ⟨⟨x, bs1, bad1⟩, hs1⟩ : ∃ x, rnum 2 (bs0, bad0) = x := ⟨_, rfl⟩
  rw [hs1] at b1 hk hX0
  obtain ⟨hk0, hk1⟩ := hk
  rw [show (256 : Int) ^ 2 = 65536 from rfl] at hk1
  dsimp only at b1 hk0 hk1 hX0
  obtain ⟨N, rfl⟩ := Int.eq_ofNat_of_zero_le hk0
  rw [Int.toNat_natCast] at hX0
  obtain ⟨X, hX⟩ : ∃ X, rdList (lng 8) (bs0, bad0) = X := ⟨_, rfl⟩
  rw [hX] at hX0 ⊢
  have hX1 : Hid (thg (lng 8) N (bs1, bad1) [] = X) := hX0.symm
  have K := Lib.hid H
  replace hs1 := Lib.hid hs1
  have hb1 := Lib.hid b1
  clear H hr hb b1 hX hX0
  go_enter Try.func68, Try.ntmps68
  go_wp2_with fail
  refine (number42 p v0 bs0 bad0 2 (by omega) w w0 R K.out hr0.out hb0.out).mono ?_
  rintro e w1 ⟨v1, rfl, hrd, K1⟩
  rw [hs1.out] at hrd K1 ⊢
  have hV := Lib.hid hrd
  have K2 := Lib.hid (K1.ls_nil (Enc.num .i64) 2)
  clear hrd K K1
  go_wp2_with fail
  go_loopg [5, 9] N (fun g lv iv wr => ∃ (i : Nat) (A : Option Addr) (m c : Nat) (out : List (Int)) (vi : Value) (bi : List Int) (di : Bool), g + i = N ∧ iv = .int .u64 i ∧ lv = .slice A m c ∧ m ≤ i ∧ Hid (out.length = m) ∧ Hid (thg (lng 8) (N - i) (bi, di) out = X) ∧ Hid (Byt bi) ∧ Hid (∀ W, RdL U8 W v0 bs0 → RdL U8 W vi bi) ∧
    Hid (Hs w0 wr (Ls (Enc.num .i64) 2 (.slice A m c) out :: Blk p (.cells #[vi, .bool di] 90) :: R)))
  case atStart => exact ⟨0, none, 0, 0, [], v1, bs1, bad1, rfl, rfl, rfl, Nat.le_refl _, Lib.hid rfl, hX1, hb1, hV, K2⟩
  case round =>
    clear K2 hX1 hb1 hV
    obtain ⟨i, A, m, c, out, vi, bi, di, hg, rfl, rfl, hmi, hm, hXi, hbi, hVi, K⟩ := hrel
    have hiN : i ≤ N := by omega
    replace hg := Lib.hid hg
    rcases Nat.lt_or_ge i N with hlt | hlt
    · have hi1 : (i : Int) < (N : Int) := by omega
      have hwi : IntKind.u64.wrap ((i : Int) + 1) = ((i + 1 : Nat) : Int) := by rw [IntKind.wrap_u64]; omega
      have b2 := good_lng.byt (bi, di) hbi.out
      have hstep : thg (lng 8) (N - i) (bi, di) out = if ((lng 8) (bi, di)).2.2 = true then ([], ((lng 8) (bi, di)).2) else thg (lng 8) (N - (i + 1)) ((lng 8) (bi, di)).2 (out ++ [((lng 8) (bi, di)).1]) := by
        rw [show N - i = (N - (i + 1)) + 1 by omega]
        rfl
      rw [hXi.out] at hstep
      obtain ⟨⟨y, bj, dj⟩, hy⟩ : ∃ x, (lng 8) (bi, di) = x := ⟨_, rfl⟩
      rw [hy] at b2 hstep
      dsimp only at b2 hstep
      replace hy := Lib.hid hy
      have hst0 := Lib.hid hstep
      clear hstep
      have hbj := Lib.hid b2
      clear b2
      go_wp2_with fail
      refine (long67 p vi bi di wr w0 _ K.out.at1 (fun w' h => hVi.out w' (hr0.out w' h.tail)) hbi.out).mono ?_
      rw [hy.out]
      rintro e w5 ⟨vj, rfl, hrd, K5⟩
      have hVj : Hid (∀ W, RdL U8 W v0 bs0 → RdL U8 W vj bj) := fun W h => hrd W (hVi.out W h)
      have d1 : w5.cell? ⟨p, 1, none⟩ = some (.bool dj) := K5.cellOf 1 rfl
      replace K5 := Lib.hid K5
      clear hrd K
      cases dj with
      | true =>
        have hstep := hst0.out
        rw [if_pos rfl] at hstep
        subst hstep
        go_wp2_with fail
        go_ret
        exact ⟨none, 0, vj, rfl, hVj.out, K5.out.at1.tail.ls_nil _ _⟩
      | false =>
        have hstep := hst0.out
        rw [if_neg (by simp)] at hstep
        have hXj : Hid (thg (lng 8) (N - (i + 1)) (bj, false) (out ++ [y]) = X) := hstep.symm
        clear hstep hst0
        go_wp2_with (at_builtin; refine wpList_append1N (E := Enc.num .i64) m hm.out rfl (.tmp 18) (.tmp 20) 51 rfl 2 _ 1 8 Try.underlying51 infoTh68 rfl (by decide) (by decide) rfl rfl rfl (by simp) K5.out.at1 y (by omega) ?_)
        intro A6 c6 w6 K6
        replace K6 := Lib.hid K6
        clear K5 d1
        go_wp2_with fail
        go_roundg (N - (i + 1))
        case measure => have := hg.out; omega
        case rel => exact ⟨i + 1, A6, m + 1, c6, out ++ [y], vj, bj, false, by have := hg.out; omega, by first | rfl | go_num | rw [hwi], rfl, by omega, by show _ = _; rw [List.length_append, hm.out]; rfl, hXj, hbj, hVj, K6⟩
    · have hi1 : decide ((i : Int) < (N : Int)) = false := by rw [decide_eq_false_iff_not]; omega
      have hi2 : decide (i < N) = false := by rw [decide_eq_false_iff_not]; omega
      have hfin : (out, ((bi, di) : Rst)) = X := by
        have := hXi.out
        rw [show N - i = 0 by omega] at this
        exact this
      subst hfin
      clear hlt
      go_wp2_with fail
      go_ret
      dsimp only
      exact ⟨A, c, vi, by rw [hm.out]; rfl, hVi.out, by rw [hm.out]; exact K.out⟩
theorem infoTh69 : (Try.prog.info? 106).map (fun i => (i.zero, i.size, i.bytes)) = some (some (.agg #[.int .i64 0, .int .i64 0, .int .i64 0, .int .i64 0]), 4, 32) := by kernel_rfl
set_option maxRecDepth 100000 in
set_option maxHeartbeats 1600000 in
theorem things69 (p : Nat) (v0 : Value) (bs0 : List Int) (bad0 : Bool) (w w0 : World) (R : List HP) (H : Hs w0 w (Blk p (.cells #[v0, .bool bad0] 90) :: R)) (hr : ∀ w', Hs w0 w' R → RdL U8 w' v0 bs0) (hb : Byt bs0) :
    Calls Try.prog 69 #[.pointer (some ⟨p, 0, none⟩), .func (.func 70) #[] #[]] w (TPost ((Enc.num .i64).pair (((Enc.num .i64).pair (Enc.num .i64)).pair (Enc.num .i64))) 106 v0 bs0 p w0 R (rdList rdPn (bs0, bad0)).1 (rdList rdPn (bs0, bad0)).2) := by
  have hr0 := Lib.hid hr
  have hb0 := Lib.hid hb
  have b1 := (good_num 2).byt (bs0, bad0) hb
  have hk := rnum_lt 2 (bs0, bad0) hb
  have hX0 : rdList rdPn (bs0, bad0) = thg rdPn (rnum 2 (bs0, bad0)).1.toNat (rnum 2 (bs0, bad0)).2 [] := rfl
  obtain ⟨⟨x, bs1, bad1⟩, hs1⟩ : ∃ x, rnum 2 (bs0, bad0) = x := ⟨_, rfl⟩
  rw [hs1] at b1 hk hX0
  obtain ⟨hk0, hk1⟩ := hk
  rw [show (256 : Int) ^ 2 = 65536 from rfl] at hk1
  dsimp only at b1 hk0 hk1 hX0
  obtain ⟨N, rfl⟩ := Int.eq_ofNat_of_zero_le hk0
  rw [Int.toNat_natCast] at hX0
  obtain ⟨X, hX⟩ : ∃ X, rdList rdPn (bs0, bad0) = X := ⟨_, rfl⟩
  rw [hX] at hX0 ⊢
  have hX1 : Hid (thg rdPn N (bs1, bad1) [] = X) := hX0.symm
  have K := Lib.hid H
  replace hs1 := Lib.hid hs1
  have hb1 := Lib.hid b1
  clear H hr hb b1 hX hX0
  go_enter Try.func69, Try.ntmps69
  go_wp2_with fail
  refine (number42 p v0 bs0 bad0 2 (by omega) w w0 R K.out hr0.out hb0.out).mono ?_
  rintro e w1 ⟨v1, rfl, hrd, K1⟩
  rw [hs1.out] at hrd K1 ⊢
  have hV := Lib.hid hrd
  have K2 := Lib.hid (K1.ls_nil ((Enc.num .i64).pair (((Enc.num .i64).pair (Enc.num .i64)).pair (Enc.num .i64))) 106)
  clear hrd K K1
  go_wp2_with fail
  go_loopg [5, 9] N (fun g lv iv wr => ∃ (i : Nat) (A : Option Addr) (m c : Nat) (out : List (Pn4)) (vi : Value) (bi : List Int) (di : Bool), g + i = N ∧ iv = .int .u64 i ∧ lv = .slice A m c ∧ m ≤ i ∧ Hid (out.length = m) ∧ Hid (thg rdPn (N - i) (bi, di) out = X) ∧ Hid (Byt bi) ∧ Hid (∀ W, RdL U8 W v0 bs0 → RdL U8 W vi bi) ∧
    Hid (Hs w0 wr (Ls ((Enc.num .i64).pair (((Enc.num .i64).pair (Enc.num .i64)).pair (Enc.num .i64))) 106 (.slice A m c) out :: Blk p (.cells #[vi, .bool di] 90) :: R)))
  case atStart => exact ⟨0, none, 0, 0, [], v1, bs1, bad1, rfl, rfl, rfl, Nat.le_refl _, Lib.hid rfl, hX1, hb1, hV, K2⟩
  case round =>
    clear K2 hX1 hb1 hV
    obtain ⟨i, A, m, c, out, vi, bi, di, hg, rfl, rfl, hmi, hm, hXi, hbi, hVi, K⟩ := hrel
    have hiN : i ≤ N := by omega
    replace hg := Lib.hid hg
    rcases Nat.lt_or_ge i N with hlt | hlt
    · have hi1 : (i : Int) < (N : Int) := by omega
      have hwi : IntKind.u64.wrap ((i : Int) + 1) = ((i + 1 : Nat) : Int) := by rw [IntKind.wrap_u64]; omega
      have b2 := good_pn.byt (bi, di) hbi.out
      have hstep : thg rdPn (N - i) (bi, di) out = if (rdPn (bi, di)).2.2 = true then ([], (rdPn (bi, di)).2) else thg rdPn (N - (i + 1)) (rdPn (bi, di)).2 (out ++ [(rdPn (bi, di)).1]) := by
        rw [show N - i = (N - (i + 1)) + 1 by omega]
        rfl
      rw [hXi.out] at hstep
      obtain ⟨⟨y, bj, dj⟩, hy⟩ : ∃ x, rdPn (bi, di) = x := ⟨_, rfl⟩
      rw [hy] at b2 hstep
      dsimp only at b2 hstep
      replace hy := Lib.hid hy
      have hst0 := Lib.hid hstep
      clear hstep
      have hbj := Lib.hid b2
      clear b2
      go_wp2_with fail
      refine (pane70 p vi bi di wr w0 _ K.out.at1 (fun w' h => hVi.out w' (hr0.out w' h.tail)) hbi.out).mono ?_
      rw [hy.out]
      dsimp only [pnc]
      rintro e w5 ⟨vj, rfl, hrd, K5⟩
      dsimp only at hrd K5 ⊢
      have hVj : Hid (∀ W, RdL U8 W v0 bs0 → RdL U8 W vj bj) := fun W h => hrd W (hVi.out W h)
      obtain ⟨k, ⟨f, t⟩, a⟩ := y
      have KB := (K5.alloc (.cells #[.int .i64 k, .int .i64 f, .int .i64 t, .int .i64 a] 106)).at1
      clear hrd K
      go_upto_region 5 with (fail)
      generalize World.alloc w5 _ = wb at KB ⊢
      generalize w5.heap.size = pb at KB ⊢
      have s0 : wb.cell? ⟨pb, 0, none⟩ = some (.int .i64 k) := KB.at1.cellOf 0 rfl
      have s1 : wb.cell? ⟨pb, 1, none⟩ = some (.int .i64 f) := KB.at1.cellOf 1 rfl
      have s2 : wb.cell? ⟨pb, 2, none⟩ = some (.int .i64 t) := KB.at1.cellOf 2 rfl
      have s3 : wb.cell? ⟨pb, 3, none⟩ = some (.int .i64 a) := KB.at1.cellOf 3 rfl
      have d1 : wb.cell? ⟨p, 1, none⟩ = some (.bool dj) := KB.cellOf 1 rfl
      have K5 := Lib.hid KB.at1.tail
      clear KB
      cases dj with
      | true =>
        have hstep := hst0.out
        rw [if_pos rfl] at hstep
        subst hstep
        go_wp2_with fail
        go_ret
        exact ⟨none, 0, vj, rfl, hVj.out, K5.out.at1.tail.ls_nil _ _⟩
      | false =>
        have hstep := hst0.out
        rw [if_neg (by simp)] at hstep
        have hXj : Hid (thg rdPn (N - (i + 1)) (bj, false) (out ++ [(k, (f, t), a)]) = X) := hstep.symm
        clear hstep hst0
        go_wp2_with (at_builtin; refine wpList_append1N (E := (Enc.num .i64).pair (((Enc.num .i64).pair (Enc.num .i64)).pair (Enc.num .i64))) m hm.out rfl (.tmp 18) (.tmp 20) 52 rfl 106 _ 4 32 Try.underlying52 infoTh69 rfl (by decide) (by decide) rfl rfl rfl (by simp) K5.out.at1 (k, (f, t), a) (by omega) ?_)
        intro A6 c6 w6 K6
        replace K6 := Lib.hid K6
        clear K5 d1
        go_wp2_with fail
        go_roundg (N - (i + 1))
        case measure => have := hg.out; omega
        case rel => exact ⟨i + 1, A6, m + 1, c6, out ++ [(k, (f, t), a)], vj, bj, false, by have := hg.out; omega, by first | rfl | go_num | rw [hwi], rfl, by omega, by show _ = _; rw [List.length_append, hm.out]; rfl, hXj, hbj, hVj, K6⟩
    · have hi1 : decide ((i : Int) < (N : Int)) = false := by rw [decide_eq_false_iff_not]; omega
      have hi2 : decide (i < N) = false := by rw [decide_eq_false_iff_not]; omega
      have hfin : (out, ((bi, di) : Rst)) = X := by
        have := hXi.out
        rw [show N - i = 0 by omega] at this
        exact this
      subst hfin
      clear hlt
      go_wp2_with fail
      go_ret
      dsimp only
      exact ⟨A, c, vi, by rw [hm.out]; rfl, hVi.out, by rw [hm.out]; exact K.out⟩
theorem infoTh71 : (Try.prog.info? 97).map (fun i => (i.zero, i.size, i.bytes)) = some (some (.agg #[.int .i64 0, .int .i64 0, .int .i64 0, .int .i64 0, .int .i64 0, .int .i64 0, .int .u64 0, .bool false]), 8, 64) := by kernel_rfl
set_option maxRecDepth 100000 in
set_option maxHeartbeats 1600000 in
theorem things71 (p : Nat) (v0 : Value) (bs0 : List Int) (bad0 : Bool) (w w0 : World) (R : List HP) (H : Hs w0 w (Blk p (.cells #[v0, .bool bad0] 90) :: R)) (hr : ∀ w', Hs w0 w' R → RdL U8 w' v0 bs0) (hb : Byt bs0) :
    Calls Try.prog 71 #[.pointer (some ⟨p, 0, none⟩), .func (.func 72) #[] #[]] w (TPost ((Enc.num .i64).pair ((Enc.num .i64).pair (((Enc.num .i64).pair ((Enc.num .i64).pair (Enc.num .i64))).pair ((Enc.num .i64).pair ((Enc.num .u64).pair Enc.flag))))) 97 v0 bs0 p w0 R (rdList rdOt (bs0, bad0)).1 (rdList rdOt (bs0, bad0)).2) := by
  have hr0 := Lib.hid hr
  have hb0 := Lib.hid hb
  have b1 := (good_num 2).byt (bs0, bad0) hb
  have hk := rnum_lt 2 (bs0, bad0) hb
  have hX0 : rdList rdOt (bs0, bad0) = thg rdOt (rnum 2 (bs0, bad0)).1.toNat (rnum 2 (bs0, bad0)).2 [] := rfl
  obtain ⟨⟨x, bs1, bad1⟩, hs1⟩ : ∃ x, rnum 2 (bs0, bad0) = x := ⟨_, rfl⟩
  rw [hs1] at b1 hk hX0
  obtain ⟨hk0, hk1⟩ := hk
  rw [show (256 : Int) ^ 2 = 65536 from rfl] at hk1
  dsimp only at b1 hk0 hk1 hX0
  obtain ⟨N, rfl⟩ := Int.eq_ofNat_of_zero_le hk0
  rw [Int.toNat_natCast] at hX0
  obtain ⟨X, hX⟩ : ∃ X, rdList rdOt (bs0, bad0) = X := ⟨_, rfl⟩
  rw [hX] at hX0 ⊢
  have hX1 : Hid (thg rdOt N (bs1, bad1) [] = X) := hX0.symm
  have K := Lib.hid H
  replace hs1 := Lib.hid hs1
  have hb1 := Lib.hid b1
  clear H hr hb b1 hX hX0
  go_enter Try.func71, Try.ntmps71
  go_wp2_with fail
  refine (number42 p v0 bs0 bad0 2 (by omega) w w0 R K.out hr0.out hb0.out).mono ?_
  rintro e w1 ⟨v1, rfl, hrd, K1⟩
  rw [hs1.out] at hrd K1 ⊢
  have hV := Lib.hid hrd
  have K2 := Lib.hid (K1.ls_nil ((Enc.num .i64).pair ((Enc.num .i64).pair (((Enc.num .i64).pair ((Enc.num .i64).pair (Enc.num .i64))).pair ((Enc.num .i64).pair ((Enc.num .u64).pair Enc.flag))))) 97)
  clear hrd K K1
  go_wp2_with fail
  go_loopg [5, 9] N (fun g lv iv wr => ∃ (i : Nat) (A : Option Addr) (m c : Nat) (out : List (Ot)) (vi : Value) (bi : List Int) (di : Bool), g + i = N ∧ iv = .int .u64 i ∧ lv = .slice A m c ∧ m ≤ i ∧ Hid (out.length = m) ∧ Hid (thg rdOt (N - i) (bi, di) out = X) ∧ Hid (Byt bi) ∧ Hid (∀ W, RdL U8 W v0 bs0 → RdL U8 W vi bi) ∧
    Hid (Hs w0 wr (Ls ((Enc.num .i64).pair ((Enc.num .i64).pair (((Enc.num .i64).pair ((Enc.num .i64).pair (Enc.num .i64))).pair ((Enc.num .i64).pair ((Enc.num .u64).pair Enc.flag))))) 97 (.slice A m c) out :: Blk p (.cells #[vi, .bool di] 90) :: R)))
  case atStart => exact ⟨0, none, 0, 0, [], v1, bs1, bad1, rfl, rfl, rfl, Nat.le_refl _, Lib.hid rfl, hX1, hb1, hV, K2⟩
  case round =>
    clear K2 hX1 hb1 hV
    obtain ⟨i, A, m, c, out, vi, bi, di, hg, rfl, rfl, hmi, hm, hXi, hbi, hVi, K⟩ := hrel
    have hiN : i ≤ N := by omega
    replace hg := Lib.hid hg
    rcases Nat.lt_or_ge i N with hlt | hlt
    · have hi1 : (i : Int) < (N : Int) := by omega
      have hwi : IntKind.u64.wrap ((i : Int) + 1) = ((i + 1 : Nat) : Int) := by rw [IntKind.wrap_u64]; omega
      have b2 := good_ot.byt (bi, di) hbi.out
      have hstep : thg rdOt (N - i) (bi, di) out = if (rdOt (bi, di)).2.2 = true then ([], (rdOt (bi, di)).2) else thg rdOt (N - (i + 1)) (rdOt (bi, di)).2 (out ++ [(rdOt (bi, di)).1]) := by
        rw [show N - i = (N - (i + 1)) + 1 by omega]
        rfl
      rw [hXi.out] at hstep
      obtain ⟨⟨y, bj, dj⟩, hy⟩ : ∃ x, rdOt (bi, di) = x := ⟨_, rfl⟩
      rw [hy] at b2 hstep
      dsimp only at b2 hstep
      replace hy := Lib.hid hy
      have hst0 := Lib.hid hstep
      clear hstep
      have hbj := Lib.hid b2
      clear b2
      go_wp2_with fail
      refine (out72 p vi bi di wr w0 _ K.out.at1 (fun w' h => hVi.out w' (hr0.out w' h.tail)) hbi.out).mono ?_
      rw [hy.out]
      dsimp only [otc, frc]
      rintro e w5 ⟨vj, rfl, hrd, K5⟩
      dsimp only at hrd K5 ⊢
      have hVj : Hid (∀ W, RdL U8 W v0 bs0 → RdL U8 W vj bj) := fun W h => hrd W (hVi.out W h)
      obtain ⟨ch, k, ⟨r1, r2, r3⟩, mk, nn, o⟩ := y
      have KB := (K5.alloc (.cells #[.int .i64 ch, .int .i64 k, .int .i64 r1, .int .i64 r2, .int .i64 r3, .int .i64 mk, .int .u64 nn, .bool o] 97)).at1
      clear hrd K
      go_upto_region 5 with (fail)
      generalize World.alloc w5 _ = wb at KB ⊢
      generalize w5.heap.size = pb at KB ⊢
      have s0 : wb.cell? ⟨pb, 0, none⟩ = some (.int .i64 ch) := KB.at1.cellOf 0 rfl
      have s1 : wb.cell? ⟨pb, 1, none⟩ = some (.int .i64 k) := KB.at1.cellOf 1 rfl
      have s2 : wb.cell? ⟨pb, 2, none⟩ = some (.int .i64 r1) := KB.at1.cellOf 2 rfl
      have s3 : wb.cell? ⟨pb, 3, none⟩ = some (.int .i64 r2) := KB.at1.cellOf 3 rfl
      have s4 : wb.cell? ⟨pb, 4, none⟩ = some (.int .i64 r3) := KB.at1.cellOf 4 rfl
      have s5 : wb.cell? ⟨pb, 5, none⟩ = some (.int .i64 mk) := KB.at1.cellOf 5 rfl
      have s6 : wb.cell? ⟨pb, 6, none⟩ = some (.int .u64 nn) := KB.at1.cellOf 6 rfl
      have s7 : wb.cell? ⟨pb, 7, none⟩ = some (.bool o) := KB.at1.cellOf 7 rfl
      have d1 : wb.cell? ⟨p, 1, none⟩ = some (.bool dj) := KB.cellOf 1 rfl
      have K5 := Lib.hid KB.at1.tail
      clear KB
      cases dj with
      | true =>
        have hstep := hst0.out
        rw [if_pos rfl] at hstep
        subst hstep
        go_wp2_with fail
        go_ret
        exact ⟨none, 0, vj, rfl, hVj.out, K5.out.at1.tail.ls_nil _ _⟩
      | false =>
        have hstep := hst0.out
        rw [if_neg (by simp)] at hstep
        have hXj : Hid (thg rdOt (N - (i + 1)) (bj, false) (out ++ [(ch, k, (r1, r2, r3), mk, nn, o)]) = X) := hstep.symm
        clear hstep hst0
        go_wp2_with (at_builtin; refine wpList_append1N (E := (Enc.num .i64).pair ((Enc.num .i64).pair (((Enc.num .i64).pair ((Enc.num .i64).pair (Enc.num .i64))).pair ((Enc.num .i64).pair ((Enc.num .u64).pair Enc.flag))))) m hm.out rfl (.tmp 18) (.tmp 20) 53 rfl 97 _ 8 64 Try.underlying53 infoTh71 rfl (by decide) (by decide) rfl rfl rfl (by simp) K5.out.at1 (ch, k, (r1, r2, r3), mk, nn, o) (by omega) ?_)
        intro A6 c6 w6 K6
        replace K6 := Lib.hid K6
        clear K5 d1
        go_wp2_with fail
        go_roundg (N - (i + 1))
        case measure => have := hg.out; omega
        case rel => exact ⟨i + 1, A6, m + 1, c6, out ++ [(ch, k, (r1, r2, r3), mk, nn, o)], vj, bj, false, by have := hg.out; omega, by first | rfl | go_num | rw [hwi], rfl, by omega, by show _ = _; rw [List.length_append, hm.out]; rfl, hXj, hbj, hVj, K6⟩
    · have hi1 : decide ((i : Int) < (N : Int)) = false := by rw [decide_eq_false_iff_not]; omega
      have hi2 : decide (i < N) = false := by rw [decide_eq_false_iff_not]; omega
      have hfin : (out, ((bi, di) : Rst)) = X := by
        have := hXi.out
        rw [show N - i = 0 by omega] at this
        exact this
      subst hfin
      clear hlt
      go_wp2_with fail
      go_ret
      dsimp only
      exact ⟨A, c, vi, by rw [hm.out]; rfl, hVi.out, by rw [hm.out]; exact K.out⟩
end Go.Proofs.Ytjdkpogkhecijaa

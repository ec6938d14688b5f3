import Derived.Test.YtjdkpogkhecijaaUf
import Derived.Test.YtjdkpogkhecijaaUf
import Derived.Test.YtjdkpogkhecijaaTa
import Derived.Test.YtjdkpogkhecijaaWh
import Derived.IntWalk
import Derived.Test.YtjdkpogkhecijaaProg
import Derived.Test.YtjdkpogkhecijaaLs
import Derived.Outline
import Derived.StillTailTactics
import Derived.Deep.DeepCutAuto
import Derived.Deep.CutBlock
import Derived.Deep.LoopGhost
import Derived.Deep.QuietTactic
import Derived.BigQuiet
import Derived.Deep.RegionHeld3
import Derived.Deep.RegionLaw
set_option linter.unusedVariables false
set_option linter.unusedSimpArgs false
namespace Go.Proofs.Ytjdkpogkhecijaa
open Go.RowKit
/-- A part and an error are told. -/
def SP (w0 : World) (R : List HP) (x : Sn × Int) (e : Ending) (w' : World) : Prop :=
  ∃ A1 c1 A2 c2 A3 c3, e = .returned (.tuple #[.agg #[.int .i64 x.1.1, .int .i64 x.1.2.1, .int .i64 x.1.2.2.1, .slice A1 x.1.2.2.2.1.length c1, .slice A2 x.1.2.2.2.2.1.length c2, .slice A3 x.1.2.2.2.2.2.length c3], .int .i64 x.2]) ∧
    Hs w0 w' (Ls ((Enc.num .i64).pair ((Enc.num .i64).pair (((Enc.num .i64).pair ((Enc.num .i64).pair (Enc.num .i64))).pair ((Enc.num .i64).pair ((Enc.num .u64).pair Enc.flag))))) 97 (.slice A3 x.1.2.2.2.2.2.length c3) x.1.2.2.2.2.2 :: Ls ((Enc.num .i64).pair (((Enc.num .i64).pair (Enc.num .i64)).pair (Enc.num .i64))) 106 (.slice A2 x.1.2.2.2.2.1.length c2) x.1.2.2.2.2.1 :: Ls (Enc.num .i64) 2 (.slice A1 x.1.2.2.2.1.length c1) x.1.2.2.2.1 :: R)
theorem thg_all {α : Type} {rd : Rst → α × Rst} {M : α → Prop} (h1 : ∀ s, Byt s.1 → M (rd s).1) (h2 : ∀ s, Byt s.1 → Byt (rd s).2.1) : ∀ (n : Nat) (s : Rst) (out : List α), Byt s.1 → (∀ x ∈ out, M x) → ∀ x ∈ (thg rd n s out).1, M x := by
  intro n
  induction n with
  | zero => intro s out _ h; exact h
  | succ n ih =>
    intro s out hb h
    unfold thg
    split
    · intro x hx; cases hx
    · refine ih _ _ (h2 s hb) fun x hx => ?_
      rcases List.mem_append.1 hx with h3 | h3
      · exact h x h3
      · rw [List.mem_singleton] at h3; subst h3; exact h1 s hb
theorem ot_u64 {s : Rst} (h : Byt s.1) : U64 (rdOt s).1.2.2.2.2.1 := fr_u64 ((good_num 2).byt s h)
set_option maxRecDepth 100000 in
set_option maxHeartbeats 4000000 in
theorem openS34 (v : Value) (b : List Int) (w w0 : World) (R : List HP) (H : Hs w0 w R) (hr : ∀ w', Hs w0 w' R → RdL U8 w' v b) (hb : Byt b) :
    Calls Try.prog 34 #[v] w (SP w0 R (opN b)) := by
  obtain ⟨A0, cb, hv⟩ := (hr w H).form
  subst hv
  obtain ⟨nb, hnb⟩ : ∃ n, b.length = n := ⟨_, rfl⟩
  rw [hnb] at hr ⊢
  replace hnb := Lib.hid hnb
  have K := ((H.alloc (.cells #[.int .i64 0, .int .i64 0, .int .i64 0, .slice none 0 0, .slice none 0 0, .slice none 0 0] 55)).alloc (.cells #[.slice A0 nb cb, .bool false] 90))
  rw [show (w.alloc (.cells #[.int .i64 0, .int .i64 0, .int .i64 0, .slice none 0 0, .slice none 0 0, .slice none 0 0] 55)).heap.size = w.heap.size + 1 from Array.size_push ..] at K
  obtain ⟨⟨tk, b1, bad1⟩, hs1⟩ : ∃ x, rnum 2 (b, false) = x := ⟨_, rfl⟩
  have hy1 : Hid (Byt b1) := by have := (good_num 2).byt (b, false) hb; rw [hs1] at this; exact this
  obtain ⟨⟨of, b2, bad2⟩, hs2⟩ : ∃ x, rnum 2 (b1, bad1) = x := ⟨_, rfl⟩
  have hy2 : Hid (Byt b2) := by have := (good_num 2).byt (b1, bad1) hy1.out; rw [hs2] at this; exact this
  obtain ⟨⟨mk, b3, bad3⟩, hs3⟩ : ∃ x, lng 8 (b2, bad2) = x := ⟨_, rfl⟩
  have hy3 : Hid (Byt b3) := by have := good_lng.byt (b2, bad2) hy2.out; rw [hs3] at this; exact this
  obtain ⟨⟨ms, b4, bad4⟩, hs4⟩ : ∃ x, rdList (lng 8) (b3, bad3) = x := ⟨_, rfl⟩
  have hy4 : Hid (Byt b4) := by have := good_mk.list.byt (b3, bad3) hy3.out; rw [hs4] at this; exact this
  obtain ⟨⟨ps, b5, bad5⟩, hs5⟩ : ∃ x, rdList rdPn (b4, bad4) = x := ⟨_, rfl⟩
  have hy5 : Hid (Byt b5) := by have := good_pn.list.byt (b4, bad4) hy4.out; rw [hs5] at this; exact this
  obtain ⟨⟨os, b6, bad6⟩, hs6⟩ : ∃ x, rdList rdOt (b5, bad5) = x := ⟨_, rfl⟩
  have hy6 : Hid (Byt b6) := by have := good_ot.list.byt (b5, bad5) hy5.out; rw [hs6] at this; exact this
  have hx : rdSn (b, false) = ((tk, of, mk, ms, ps, os), (b6, bad6)) := by unfold rdSn rdPair; rw [hs1]; dsimp only; rw [hs2]; dsimp only; rw [hs3]; dsimp only; rw [hs4]; dsimp only; rw [hs5]; dsimp only; rw [hs6]
  have ht := rnum_lt 2 (b, false) hb
  have ho := rnum_lt 2 (b1, bad1) hy1.out
  rw [hs1, show (256 : Int) ^ 2 = 65536 from rfl] at ht
  rw [hs2, show (256 : Int) ^ 2 = 65536 from rfl] at ho
  obtain ⟨ht0, ht1⟩ := ht
  obtain ⟨ho0, ho1⟩ := ho
  dsimp only at ht0 ht1 ho0 ho1
  have hwt : IntKind.i64.wrap tk = tk := IntWalk.i64_in _ (by omega)
  have hwo : IntKind.i64.wrap of = of := IntWalk.i64_in _ (by omega)
  have hU : Hid (∀ x ∈ os, U64 x.2.2.2.2.1) := by
    have := thg_all (rd := rdOt) (M := fun x => U64 x.2.2.2.2.1) (fun s h => ot_u64 h) (fun s h => good_ot.byt s h) (rnum 2 (b5, bad5)).1.toNat (rnum 2 (b5, bad5)).2 [] ((good_num 2).byt _ hy5.out) (fun x hx => by cases hx)
    rw [show thg rdOt (rnum 2 (b5, bad5)).1.toNat (rnum 2 (b5, bad5)).2 [] = (os, (b6, bad6)) from hs6] at this
    exact this
  have hop := opN_yes hb hx
  have hV0 := Lib.hid hr
  have hy0 := Lib.hid hb
  clear hx hr hb H ht0 ht1 ho0 ho1
  replace hs1 := Lib.hid hs1
  replace hs2 := Lib.hid hs2
  replace hs3 := Lib.hid hs3
  replace hs4 := Lib.hid hs4
  replace hs5 := Lib.hid hs5
  replace hs6 := Lib.hid hs6
  replace K := Lib.hid K
  obtain ⟨Q, hQ⟩ : ∃ Q, (!bad6 && (b6.isEmpty && (snErr (tk, of, mk, ms, ps, os) == 0 && decide (b = snOut (tk, of, mk, ms, ps, os))))) = Q := ⟨_, rfl⟩
  rw [hQ] at hop
  rw [hop]
  clear hop
  replace hQ := Lib.hid hQ
  obtain ⟨n1, hn1⟩ : ∃ x, ms.length = x := ⟨_, rfl⟩
  obtain ⟨n2, hn2⟩ : ∃ x, ps.length = x := ⟨_, rfl⟩
  obtain ⟨n3, hn3⟩ : ∃ x, os.length = x := ⟨_, rfl⟩
  cases Q with
  | true =>
    rw [if_pos rfl]
    go_enter Try.func34, Try.ntmps34
    go_upto_region 2 with (fail)
    generalize World.alloc _ _ = w1 at K ⊢
    generalize w.heap.size + 1 = p at K ⊢
    generalize w.heap.size = q at K ⊢
    go_wp2_with fail
    refine (number42 p (.slice A0 nb cb) b false 2 (by omega) _ w0 _ K.out (fun w' h => hV0.out w' h.tail) hy0.out).mono ?_
    rintro e y1 ⟨v1, rfl, hrd, K2⟩
    rw [hs1.out] at hrd K2 ⊢
    have hV1 : Hid (∀ w', Hs w0 w' R → RdL U8 w' v1 b1) := fun w' h => hrd w' (hV0.out w' h)
    replace K2 := Lib.hid K2
    clear hrd
    clear K
    go_wp2_with fail
    refine (number42 p v1 b1 bad1 2 (by omega) _ w0 _ K2.out (fun w' h => hV1.out w' h.tail) hy1.out).mono ?_
    rintro e y2 ⟨v2, rfl, hrd, K3⟩
    rw [hs2.out] at hrd K3 ⊢
    have hV2 : Hid (∀ w', Hs w0 w' R → RdL U8 w' v2 b2) := fun w' h => hrd w' (hV1.out w' h)
    replace K3 := Lib.hid K3
    clear hrd
    clear K2
    go_wp2_with fail
    refine (long67 p v2 b2 bad2 _ w0 _ K3.out (fun w' h => hV2.out w' h.tail) hy2.out).mono ?_
    rintro e y3 ⟨v3, rfl, hrd, K4⟩
    rw [hs3.out] at hrd K4 ⊢
    have hV3 : Hid (∀ w', Hs w0 w' R → RdL U8 w' v3 b3) := fun w' h => hrd w' (hV2.out w' h)
    replace K4 := Lib.hid K4
    clear hrd
    clear K3
    have Km := Lib.hid ((K4.out.alloc (.cells #[.int .i64 tk, .int .i64 of, .int .i64 mk, .slice none 0 0, .slice none 0 0, .slice none 0 0] 55)).at1)
    clear K4
    go_upto_region 3 with (fail)
    generalize World.alloc y3 _ = w3 at Km ⊢
    generalize y3.heap.size = f at Km ⊢
    go_wp2_with fail
    refine (things68 p v3 b3 bad3 _ w0 _ Km.out (fun w' h => hV3.out w' h.tail.tail) hy3.out).mono ?_
    rw [hs4.out]
    rintro e y4 ⟨A1, c1, v4, rfl, hrd, KT⟩
    dsimp only at hrd KT ⊢
    rw [hn1] at KT ⊢
    have hV4 : Hid (∀ w', Hs w0 w' R → RdL U8 w' v4 b4) := fun w' h => hrd w' (hV3.out w' h)
    replace KT := Lib.hid KT
    clear hrd Km
    have d2 : y4.cell? ⟨f, 3, none⟩ = some (.slice none 0 0) := KT.out.at2.cellOf 3 rfl
    have e2 := KT.out.at2.frozenOf 3
    have KN3 := Lib.hid (KT.out.at2.setCell (i := 3) (.slice A1 n1 c1))
    simp only [List.setIfInBounds_toArray, List.set_cons_zero, List.set_cons_succ] at KN3
    go_upto_region 4 with (fail)
    clear d2 e2 KT
    generalize World.setCell _ _ _ = w4 at KN3 ⊢
    go_wp2_with fail
    refine (things69 p v4 b4 bad4 _ w0 _ KN3.out.at2 (fun w' h => hV4.out w' h.tail.tail.tail) hy4.out).mono ?_
    rw [hs5.out]
    rintro e y5 ⟨A2, c2, v5, rfl, hrd, KT⟩
    dsimp only at hrd KT ⊢
    rw [hn2] at KT ⊢
    have hV5 : Hid (∀ w', Hs w0 w' R → RdL U8 w' v5 b5) := fun w' h => hrd w' (hV4.out w' h)
    replace KT := Lib.hid KT
    clear hrd KN3
    have d2 : y5.cell? ⟨f, 4, none⟩ = some (.slice none 0 0) := KT.out.at2.cellOf 4 rfl
    have e2 := KT.out.at2.frozenOf 4
    have KN4 := Lib.hid (KT.out.at2.setCell (i := 4) (.slice A2 n2 c2))
    simp only [List.setIfInBounds_toArray, List.set_cons_zero, List.set_cons_succ] at KN4
    go_upto_region 5 with (fail)
    clear d2 e2 KT
    generalize World.setCell _ _ _ = w5 at KN4 ⊢
    go_wp2_with fail
    refine (things71 p v5 b5 bad5 _ w0 _ KN4.out.at2 (fun w' h => hV5.out w' h.tail.tail.tail.tail) hy5.out).mono ?_
    rw [hs6.out]
    rintro e y6 ⟨A3, c3, v6, rfl, hrd, KT⟩
    dsimp only at hrd KT ⊢
    rw [hn3] at KT ⊢
    have hV6 : Hid (∀ w', Hs w0 w' R → RdL U8 w' v6 b6) := fun w' h => hrd w' (hV5.out w' h)
    replace KT := Lib.hid KT
    clear hrd KN4
    have d2 : y6.cell? ⟨f, 5, none⟩ = some (.slice none 0 0) := KT.out.at2.cellOf 5 rfl
    have e2 := KT.out.at2.frozenOf 5
    have KN5 := Lib.hid (KT.out.at2.setCell (i := 5) (.slice A3 n3 c3))
    simp only [List.setIfInBounds_toArray, List.set_cons_zero, List.set_cons_succ] at KN5
    go_upto_region 6 with (fail)
    clear d2 e2 KT
    generalize World.setCell _ _ _ = w6 at KN5 ⊢
    have c0_ : w6.cell? ⟨f, 0, none⟩ = some (.int .i64 tk) := KN5.out.cellOf 0 rfl
    have c1_ : w6.cell? ⟨f, 1, none⟩ = some (.int .i64 of) := KN5.out.cellOf 1 rfl
    have c2_ : w6.cell? ⟨f, 2, none⟩ = some (.int .i64 mk) := KN5.out.cellOf 2 rfl
    have c3_ : w6.cell? ⟨f, 3, none⟩ = some (.slice A1 n1 c1) := KN5.out.cellOf 3 rfl
    have c4_ : w6.cell? ⟨f, 4, none⟩ = some (.slice A2 n2 c2) := KN5.out.cellOf 4 rfl
    have c5_ : w6.cell? ⟨f, 5, none⟩ = some (.slice A3 n3 c3) := KN5.out.cellOf 5 rfl
    go_wp2_with fail
    refine (snap27 tk of mk A1 A2 A3 n1 c1 n2 c2 n3 c3 ms ps os w6 w0 _ KN5.out (fun w' h => h.at4.ls_rd) (fun w' h => h.at3.ls_rd) (fun w' h => h.at1.ls_rd) hU.out).mono ?_
    rintro e w7 ⟨A7, c7, rfl, K7⟩
    have T := Lib.hid (whole47 p v6 (.slice A0 nb cb) (.slice A7 (snOut (tk, of, mk, ms, ps, os)).length c7) b6 b (snOut (tk, of, mk, ms, ps, os)) bad6 (snErr (tk, of, mk, ms, ps, os)) w7 w0 _ (K7.at3) (hV6.out w7 K7.tail.tail.tail.tail.tail.tail.tail) (hV0.out w7 K7.tail.tail.tail.tail.tail.tail.tail) K7.ls_rd hy0.out (snOut_byt _))
    rw [hQ.out] at T
    replace K7 := Lib.hid K7.tail
    clear KN5 c0_ c1_ c2_ c3_ c4_ c5_
    generalize (snOut (tk, of, mk, ms, ps, os)).length = nm at T ⊢
    generalize snErr (tk, of, mk, ms, ps, os) = er at T ⊢
    go_wp2_with fail
    refine T.out.mono ?_
    rintro e w8 ⟨rfl, rfl⟩
    clear T
    go_upto_region 9 with (fail)
    have g0_ := K7.out.at5.frozenOf 0
    have g1_ := K7.out.at5.frozenOf 1
    have g2_ := K7.out.at5.frozenOf 2
    have g3_ := K7.out.at5.frozenOf 3
    have g4_ := K7.out.at5.frozenOf 4
    have g5_ := K7.out.at5.frozenOf 5
    have b0_ : w7.cell? ⟨q, 0, none⟩ = some (.int .i64 0) := K7.out.at5.cellOf 0 rfl
    have b1_ : w7.cell? ⟨q, 1, none⟩ = some (.int .i64 0) := K7.out.at5.cellOf 1 rfl
    have b2_ : w7.cell? ⟨q, 2, none⟩ = some (.int .i64 0) := K7.out.at5.cellOf 2 rfl
    have b3_ : w7.cell? ⟨q, 3, none⟩ = some (.slice none 0 0) := K7.out.at5.cellOf 3 rfl
    have b4_ : w7.cell? ⟨q, 4, none⟩ = some (.slice none 0 0) := K7.out.at5.cellOf 4 rfl
    have b5_ : w7.cell? ⟨q, 5, none⟩ = some (.slice none 0 0) := K7.out.at5.cellOf 5 rfl
    have c0_ : w7.cell? ⟨f, 0, none⟩ = some (.int .i64 tk) := K7.out.cellOf 0 rfl
    have c1_ : w7.cell? ⟨f, 1, none⟩ = some (.int .i64 of) := K7.out.cellOf 1 rfl
    have c2_ : w7.cell? ⟨f, 2, none⟩ = some (.int .i64 mk) := K7.out.cellOf 2 rfl
    have c3_ : w7.cell? ⟨f, 3, none⟩ = some (.slice A1 n1 c1) := K7.out.cellOf 3 rfl
    have c4_ : w7.cell? ⟨f, 4, none⟩ = some (.slice A2 n2 c2) := K7.out.cellOf 4 rfl
    have c5_ : w7.cell? ⟨f, 5, none⟩ = some (.slice A3 n3 c3) := K7.out.cellOf 5 rfl
    go_wp2_with fail
    have K9 := ((((((K7.out.at5.setCell (i := 0) (.int .i64 tk)).setCell (i := 1) (.int .i64 of)).setCell (i := 2) (.int .i64 mk)).setCell (i := 3) (.slice A1 n1 c1)).setCell (i := 4) (.slice A2 n2 c2)).setCell (i := 5) (.slice A3 n3 c3))
    generalize World.setCell _ _ _ = w9 at K9 ⊢
    simp only [List.setIfInBounds_toArray, List.set_cons_zero, List.set_cons_succ] at K9
    have r0_ : w9.cell? ⟨q, 0, none⟩ = some (.int .i64 tk) := K9.cellOf 0 rfl
    have r1_ : w9.cell? ⟨q, 1, none⟩ = some (.int .i64 of) := K9.cellOf 1 rfl
    have r2_ : w9.cell? ⟨q, 2, none⟩ = some (.int .i64 mk) := K9.cellOf 2 rfl
    have r3_ : w9.cell? ⟨q, 3, none⟩ = some (.slice A1 n1 c1) := K9.cellOf 3 rfl
    have r4_ : w9.cell? ⟨q, 4, none⟩ = some (.slice A2 n2 c2) := K9.cellOf 4 rfl
    have r5_ : w9.cell? ⟨q, 5, none⟩ = some (.slice A3 n3 c3) := K9.cellOf 5 rfl
    refine bodyPost_ret (v := .tuple #[.agg #[.int .i64 tk, .int .i64 of, .int .i64 mk, .slice A1 n1 c1, .slice A2 n2 c2, .slice A3 n3 c3], .int .i64 0]) ?_ rfl ⟨A1, c1, A2, c2, A3, c3, by rw [hn1, hn2, hn3], by rw [hn1, hn2, hn3]; exact K9.tail.tail.at1.tail⟩
    simp [results, Try.results34, go_sem, r0_, r1_, r2_, r3_, r4_, r5_]
  | false =>
    rw [if_neg (by simp)]
    go_enter Try.func34, Try.ntmps34
    go_upto_region 2 with (fail)
    generalize World.alloc _ _ = w1 at K ⊢
    generalize w.heap.size + 1 = p at K ⊢
    generalize w.heap.size = q at K ⊢
    go_wp2_with fail
    refine (number42 p (.slice A0 nb cb) b false 2 (by omega) _ w0 _ K.out (fun w' h => hV0.out w' h.tail) hy0.out).mono ?_
    rintro e y1 ⟨v1, rfl, hrd, K2⟩
    rw [hs1.out] at hrd K2 ⊢
    have hV1 : Hid (∀ w', Hs w0 w' R → RdL U8 w' v1 b1) := fun w' h => hrd w' (hV0.out w' h)
    replace K2 := Lib.hid K2
    clear hrd
    clear K
    go_wp2_with fail
    refine (number42 p v1 b1 bad1 2 (by omega) _ w0 _ K2.out (fun w' h => hV1.out w' h.tail) hy1.out).mono ?_
    rintro e y2 ⟨v2, rfl, hrd, K3⟩
    rw [hs2.out] at hrd K3 ⊢
    have hV2 : Hid (∀ w', Hs w0 w' R → RdL U8 w' v2 b2) := fun w' h => hrd w' (hV1.out w' h)
    replace K3 := Lib.hid K3
    clear hrd
    clear K2
    go_wp2_with fail
    refine (long67 p v2 b2 bad2 _ w0 _ K3.out (fun w' h => hV2.out w' h.tail) hy2.out).mono ?_
    rintro e y3 ⟨v3, rfl, hrd, K4⟩
    rw [hs3.out] at hrd K4 ⊢
    have hV3 : Hid (∀ w', Hs w0 w' R → RdL U8 w' v3 b3) := fun w' h => hrd w' (hV2.out w' h)
    replace K4 := Lib.hid K4
    clear hrd
    clear K3
    have Km := Lib.hid ((K4.out.alloc (.cells #[.int .i64 tk, .int .i64 of, .int .i64 mk, .slice none 0 0, .slice none 0 0, .slice none 0 0] 55)).at1)
    clear K4
    go_upto_region 3 with (fail)
    generalize World.alloc y3 _ = w3 at Km ⊢
    generalize y3.heap.size = f at Km ⊢
    go_wp2_with fail
    refine (things68 p v3 b3 bad3 _ w0 _ Km.out (fun w' h => hV3.out w' h.tail.tail) hy3.out).mono ?_
    rw [hs4.out]
    rintro e y4 ⟨A1, c1, v4, rfl, hrd, KT⟩
    dsimp only at hrd KT ⊢
    rw [hn1] at KT ⊢
    have hV4 : Hid (∀ w', Hs w0 w' R → RdL U8 w' v4 b4) := fun w' h => hrd w' (hV3.out w' h)
    replace KT := Lib.hid KT
    clear hrd Km
    have d2 : y4.cell? ⟨f, 3, none⟩ = some (.slice none 0 0) := KT.out.at2.cellOf 3 rfl
    have e2 := KT.out.at2.frozenOf 3
    have KN3 := Lib.hid (KT.out.at2.setCell (i := 3) (.slice A1 n1 c1))
    simp only [List.setIfInBounds_toArray, List.set_cons_zero, List.set_cons_succ] at KN3
    go_upto_region 4 with (fail)
    clear d2 e2 KT
    generalize World.setCell _ _ _ = w4 at KN3 ⊢
    go_wp2_with fail
    refine (things69 p v4 b4 bad4 _ w0 _ KN3.out.at2 (fun w' h => hV4.out w' h.tail.tail.tail) hy4.out).mono ?_
    rw [hs5.out]
    rintro e y5 ⟨A2, c2, v5, rfl, hrd, KT⟩
    dsimp only at hrd KT ⊢
    rw [hn2] at KT ⊢
    have hV5 : Hid (∀ w', Hs w0 w' R → RdL U8 w' v5 b5) := fun w' h => hrd w' (hV4.out w' h)
    replace KT := Lib.hid KT
    clear hrd KN3
    have d2 : y5.cell? ⟨f, 4, none⟩ = some (.slice none 0 0) := KT.out.at2.cellOf 4 rfl
    have e2 := KT.out.at2.frozenOf 4
    have KN4 := Lib.hid (KT.out.at2.setCell (i := 4) (.slice A2 n2 c2))
    simp only [List.setIfInBounds_toArray, List.set_cons_zero, List.set_cons_succ] at KN4
    go_upto_region 5 with (fail)
    clear d2 e2 KT
    generalize World.setCell _ _ _ = w5 at KN4 ⊢
    go_wp2_with fail
    refine (things71 p v5 b5 bad5 _ w0 _ KN4.out.at2 (fun w' h => hV5.out w' h.tail.tail.tail.tail) hy5.out).mono ?_
    rw [hs6.out]
    rintro e y6 ⟨A3, c3, v6, rfl, hrd, KT⟩
    dsimp only at hrd KT ⊢
    rw [hn3] at KT ⊢
    have hV6 : Hid (∀ w', Hs w0 w' R → RdL U8 w' v6 b6) := fun w' h => hrd w' (hV5.out w' h)
    replace KT := Lib.hid KT
    clear hrd KN4
    have d2 : y6.cell? ⟨f, 5, none⟩ = some (.slice none 0 0) := KT.out.at2.cellOf 5 rfl
    have e2 := KT.out.at2.frozenOf 5
    have KN5 := Lib.hid (KT.out.at2.setCell (i := 5) (.slice A3 n3 c3))
    simp only [List.setIfInBounds_toArray, List.set_cons_zero, List.set_cons_succ] at KN5
    go_upto_region 6 with (fail)
    clear d2 e2 KT
    generalize World.setCell _ _ _ = w6 at KN5 ⊢
    have c0_ : w6.cell? ⟨f, 0, none⟩ = some (.int .i64 tk) := KN5.out.cellOf 0 rfl
    have c1_ : w6.cell? ⟨f, 1, none⟩ = some (.int .i64 of) := KN5.out.cellOf 1 rfl
    have c2_ : w6.cell? ⟨f, 2, none⟩ = some (.int .i64 mk) := KN5.out.cellOf 2 rfl
    have c3_ : w6.cell? ⟨f, 3, none⟩ = some (.slice A1 n1 c1) := KN5.out.cellOf 3 rfl
    have c4_ : w6.cell? ⟨f, 4, none⟩ = some (.slice A2 n2 c2) := KN5.out.cellOf 4 rfl
    have c5_ : w6.cell? ⟨f, 5, none⟩ = some (.slice A3 n3 c3) := KN5.out.cellOf 5 rfl
    go_wp2_with fail
    refine (snap27 tk of mk A1 A2 A3 n1 c1 n2 c2 n3 c3 ms ps os w6 w0 _ KN5.out (fun w' h => h.at4.ls_rd) (fun w' h => h.at3.ls_rd) (fun w' h => h.at1.ls_rd) hU.out).mono ?_
    rintro e w7 ⟨A7, c7, rfl, K7⟩
    have T := Lib.hid (whole47 p v6 (.slice A0 nb cb) (.slice A7 (snOut (tk, of, mk, ms, ps, os)).length c7) b6 b (snOut (tk, of, mk, ms, ps, os)) bad6 (snErr (tk, of, mk, ms, ps, os)) w7 w0 _ (K7.at3) (hV6.out w7 K7.tail.tail.tail.tail.tail.tail.tail) (hV0.out w7 K7.tail.tail.tail.tail.tail.tail.tail) K7.ls_rd hy0.out (snOut_byt _))
    rw [hQ.out] at T
    replace K7 := Lib.hid K7.tail
    clear KN5 c0_ c1_ c2_ c3_ c4_ c5_
    generalize (snOut (tk, of, mk, ms, ps, os)).length = nm at T ⊢
    generalize snErr (tk, of, mk, ms, ps, os) = er at T ⊢
    go_wp2_with fail
    refine T.out.mono ?_
    rintro e w8 ⟨rfl, rfl⟩
    clear T
    go_upto_region 8 with (fail)
    have g0_ := K7.out.at5.frozenOf 0
    have g1_ := K7.out.at5.frozenOf 1
    have g2_ := K7.out.at5.frozenOf 2
    have g3_ := K7.out.at5.frozenOf 3
    have g4_ := K7.out.at5.frozenOf 4
    have g5_ := K7.out.at5.frozenOf 5
    have b0_ : w7.cell? ⟨q, 0, none⟩ = some (.int .i64 0) := K7.out.at5.cellOf 0 rfl
    have b1_ : w7.cell? ⟨q, 1, none⟩ = some (.int .i64 0) := K7.out.at5.cellOf 1 rfl
    have b2_ : w7.cell? ⟨q, 2, none⟩ = some (.int .i64 0) := K7.out.at5.cellOf 2 rfl
    have b3_ : w7.cell? ⟨q, 3, none⟩ = some (.slice none 0 0) := K7.out.at5.cellOf 3 rfl
    have b4_ : w7.cell? ⟨q, 4, none⟩ = some (.slice none 0 0) := K7.out.at5.cellOf 4 rfl
    have b5_ : w7.cell? ⟨q, 5, none⟩ = some (.slice none 0 0) := K7.out.at5.cellOf 5 rfl
    go_wp2_with fail
    have K9 := ((((((K7.out.at5.setCell (i := 0) (.int .i64 0)).setCell (i := 1) (.int .i64 0)).setCell (i := 2) (.int .i64 0)).setCell (i := 3) (.slice none 0 0)).setCell (i := 4) (.slice none 0 0)).setCell (i := 5) (.slice none 0 0))
    generalize World.setCell _ _ _ = w9 at K9 ⊢
    simp only [List.setIfInBounds_toArray, List.set_cons_zero, List.set_cons_succ] at K9
    have r0_ : w9.cell? ⟨q, 0, none⟩ = some (.int .i64 0) := K9.cellOf 0 rfl
    have r1_ : w9.cell? ⟨q, 1, none⟩ = some (.int .i64 0) := K9.cellOf 1 rfl
    have r2_ : w9.cell? ⟨q, 2, none⟩ = some (.int .i64 0) := K9.cellOf 2 rfl
    have r3_ : w9.cell? ⟨q, 3, none⟩ = some (.slice none 0 0) := K9.cellOf 3 rfl
    have r4_ : w9.cell? ⟨q, 4, none⟩ = some (.slice none 0 0) := K9.cellOf 4 rfl
    have r5_ : w9.cell? ⟨q, 5, none⟩ = some (.slice none 0 0) := K9.cellOf 5 rfl
    refine bodyPost_ret (v := .tuple #[.agg #[.int .i64 0, .int .i64 0, .int .i64 0, .slice none 0 0, .slice none 0 0, .slice none 0 0], .int .i64 10]) ?_ rfl ⟨none, 0, none, 0, none, 0, rfl, ((K9.tail.tail.tail.tail.tail.tail.ls_nil _ _).ls_nil _ _).ls_nil _ _⟩
    simp [results, Try.results34, go_sem, r0_, r1_, r2_, r3_, r4_, r5_]
end Go.Proofs.Ytjdkpogkhecijaa

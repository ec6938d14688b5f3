import Derived.Test.YtjdkpogkhecijaaCt
import Derived.Test.YtjdkpogkhecijaaCu
import Derived.Test.YtjdkpogkhecijaaFc
import Derived.Test.YtjdkpogkhecijaaWh
import Derived.IntWalk
import Derived.Test.YtjdkpogkhecijaaProg
import Derived.Test.YtjdkpogkhecijaaLs
import Derived.Outline
import Derived.StillTailTactics
import Derived.Deep.DeepCutAuto
import Derived.Deep.CutBlock
import Derived.Deep.LoopGhost
import Derived.Deep.QuietTactic
import Derived.BigQuiet
import Derived.Deep.RegionHeld3
import Derived.Deep.RegionLaw
set_option linter.unusedVariables false
set_option linter.unusedSimpArgs false
namespace Go.Proofs.Ytjdkpogkhecijaa
open Go.RowKit
/-! ### OpenControl -/
def rdCt : Rst → Ct × Rst := rdPair (rnum 1) (rdPair (rnum 8) (rdPair (rnum 8) (rnum 2)))
def rdCtR : Rst → Ct × Rst := rdPair (rnumR 1) (rdPair (rnumR 8) (rdPair (rnumR 8) (rnumR 2)))
theorem good_ct : Good rdCt rdCtR ctb (fun c => (0 ≤ c.1 ∧ c.1 < 256 ^ 1) ∧ (0 ≤ c.2.1 ∧ c.2.1 < 256 ^ 8) ∧ (0 ≤ c.2.2.1 ∧ c.2.2.1 < 256 ^ 8) ∧ 0 ≤ c.2.2.2 ∧ c.2.2.2 < 256 ^ 2) (fun _ => True ∧ True ∧ True ∧ True) := (good_num 1).pair ((good_num 8).pair ((good_num 8).pair (good_num 2)))
def zeroC : Ct := (0, 0, 0, 0)
def opC (b : List Int) : Ct × Int := if (rdCt (b, false)).2 = ([], false) ∧ CtOk (rdCt (b, false)).1 then ((rdCt (b, false)).1, 0) else (zeroC, 10)
theorem opC_yes {b : List Int} (hb : Byt b) {f : Ct} {l : List Int} {bad : Bool} (h : rdCt (b, false) = (f, (l, bad))) : opC b = if (!bad && (l.isEmpty && (cerr f == 0 && decide (b = cout f)))) = true then (f, 0) else (zeroC, 10) := by
  unfold opC
  rw [h]
  dsimp only
  by_cases hc : (l, bad) = (([], false) : Rst) ∧ CtOk f
  · rw [if_pos hc]
    obtain ⟨hc, a2⟩ := hc
    injection hc with h1 h2
    subst h1
    subst h2
    obtain ⟨a1, _⟩ := good_ct.sound (b, false) hb rfl (by rw [h])
    rw [h] at a1
    dsimp only at a1
    rw [List.append_nil] at a1
    have e1 : cerr f = 0 := if_pos a2
    have e2 : cout f = ctb f := if_pos a2
    rw [if_pos (by rw [e1, e2, ← a1]; simp)]
  · rw [if_neg hc, if_neg]
    intro h3
    simp only [Bool.and_eq_true, Bool.not_eq_true', List.isEmpty_iff, beq_iff_eq] at h3
    refine hc ⟨by rw [h3.1, h3.2.1], ?_⟩
    have h4 := h3.2.2.1
    unfold cerr at h4
    by_cases h5 : CtOk f
    · exact h5
    · rw [if_neg h5] at h4; cases h4
theorem opC_ref {b : List Int} {f : Ct} {l : List Int} {bad : Bool} (h : rdCtR (b, false) = (f, (l, bad))) : opC b = if (bad || (!l.isEmpty || cerr f != 0)) = true then (zeroC, 10) else (f, 0) := by
  unfold opC
  cases hbd : (rdCt (b, false)).2.2 with
  | true =>
    have := good_ct.bads (b, false) rfl (.inl hbd)
    rw [h] at this
    dsimp only at this
    subst this
    rw [if_neg (by intro h4; rw [h4.1] at hbd; cases hbd)]
    rfl
  | false =>
    have := good_ct.agree (b, false) rfl hbd ⟨trivial, trivial, trivial, trivial⟩
    rw [h] at this
    rw [← this] at hbd ⊢
    dsimp only at hbd ⊢
    subst hbd
    by_cases hl : l = []
    · subst hl
      by_cases h5 : CtOk f
      · have e1 : cerr f = 0 := if_pos h5
        rw [if_pos ⟨rfl, h5⟩, e1]
        rfl
      · have e1 : cerr f = 10 := if_neg h5
        rw [if_neg (by intro h6; exact h5 h6.2), e1]
        rfl
    · rw [if_neg (by intro h4; injection h4.1 with h5 _; exact hl h5), if_pos (by cases l with | nil => exact absurd rfl hl | cons x r => rfl)]
theorem ct_wf {f : Ct} {s : Rst} (h : Byt s.1) (he : (rdCt s).1 = f) : CtWf f := by
  subst he
  have b1 := (good_num 1).byt s h
  have b2 := (good_num 8).byt _ b1
  exact ⟨by have := rnum_lt 8 _ b1; rw [p8] at this; exact this, by have := rnum_lt 8 _ b2; rw [p8] at this; exact this⟩
theorem ct_wfR {f : Ct} {s : Rst} (h : Byt s.1) (he : (rdCtR s).1 = f) : CtWf f := by
  subst he
  have b1 := (good_num 1).bytR s h
  have b2 := (good_num 8).bytR _ b1
  exact ⟨by have := rnumR_lt 8 _ b1; rw [p8] at this; exact this, by have := rnumR_lt 8 _ b2; rw [p8] at this; exact this⟩
set_option maxRecDepth 100000 in
set_option maxHeartbeats 4000000 in
theorem openC24 (v : Value) (b : List Int) (w w0 : World) (R : List HP) (H : Hs w0 w R) (hr : ∀ w', Hs w0 w' R → RdL U8 w' v b) (hb : Byt b) :
    Calls Try.prog 24 #[v] w fun e w' => e = .returned (.tuple #[ctv (opC b).1, .int .i64 (opC b).2]) ∧ Hs w0 w' R := by
  obtain ⟨A0, cb, hv⟩ := (hr w H).form
  subst hv
  obtain ⟨nb, hnb⟩ : ∃ n, b.length = n := ⟨_, rfl⟩
  rw [hnb] at hr ⊢
  replace hnb := Lib.hid hnb
  have K := ((H.alloc (.cells #[.int .i64 0, .int .u64 0, .int .u64 0, .int .i64 0] 39)).alloc (.cells #[.slice A0 nb cb, .bool false] 90))
  rw [show (w.alloc (.cells #[.int .i64 0, .int .u64 0, .int .u64 0, .int .i64 0] 39)).heap.size = w.heap.size + 1 from Array.size_push ..] at K
  obtain ⟨⟨k, b1, bad1⟩, hs1⟩ : ∃ x, rnum 1 (b, false) = x := ⟨_, rfl⟩
  obtain ⟨⟨ep, b2, bad2⟩, hs2⟩ : ∃ x, rnum 8 (b1, bad1) = x := ⟨_, rfl⟩
  obtain ⟨⟨n, b3, bad3⟩, hs3⟩ : ∃ x, rnum 8 (b2, bad2) = x := ⟨_, rfl⟩
  obtain ⟨⟨t, l, bad⟩, hs4⟩ : ∃ x, rnum 2 (b3, bad3) = x := ⟨_, rfl⟩
  have hx : rdCt (b, false) = ((k, ep, n, t), (l, bad)) := by unfold rdCt rdPair; dsimp only; rw [hs1]; dsimp only; rw [hs2]; dsimp only; rw [hs3]; dsimp only; rw [hs4]
  have hy1 : Hid (Byt b1) := by have := (good_num 1).byt (b, false) hb; rw [hs1] at this; exact this
  have hy2 : Hid (Byt b2) := by have := (good_num 8).byt (b1, bad1) hy1.out; rw [hs2] at this; exact this
  have hy3 : Hid (Byt b3) := by have := (good_num 8).byt (b2, bad2) hy2.out; rw [hs3] at this; exact this
  have hk : 0 ≤ k ∧ k < 256 := by have := rnum_lt 1 (b, false) hb; rw [hs1] at this; exact this
  have ht : 0 ≤ t ∧ t < 65536 := by have := rnum_lt 2 (b3, bad3) hy3.out; rw [hs4] at this; exact this
  obtain ⟨hk0, hk1⟩ := hk
  obtain ⟨ht0, ht1⟩ := ht
  have hwf : Hid (CtWf (k, ep, n, t)) := ct_wf (s := (b, false)) hb (by rw [hx])
  have hop := opC_yes hb hx
  have hr0 := Lib.hid hr
  have hb0 := Lib.hid hb
  clear hx hr hb H
  replace hs1 := Lib.hid hs1
  replace hs2 := Lib.hid hs2
  replace hs3 := Lib.hid hs3
  replace hs4 := Lib.hid hs4
  replace K := Lib.hid K
  obtain ⟨Q, hQ⟩ : ∃ Q, (!bad && (l.isEmpty && (cerr (k, ep, n, t) == 0 && decide (b = cout (k, ep, n, t))))) = Q := ⟨_, rfl⟩
  rw [hQ] at hop
  rw [hop]
  clear hop
  replace hQ := Lib.hid hQ
  cases Q with
  | true =>
    rw [if_pos rfl]
    go_enter Try.func24, Try.ntmps24
    go_upto_region 2 with (fail)
    generalize World.alloc _ _ = w1 at K ⊢
    generalize w.heap.size + 1 = p at K ⊢
    generalize w.heap.size = q at K ⊢
    go_wp2_with fail
    refine (number42 p (.slice A0 nb cb) b false 1 (by omega) _ w0 _ K.out (fun w' h => hr0.out w' h.tail) hb0.out).mono ?_
    rintro e y1 ⟨v1, rfl, hrd, K2⟩
    rw [hs1.out] at hrd K2 ⊢
    have hV1 : Hid (∀ w', Hs w0 w' R → RdL U8 w' v1 b1) := fun w' h => hrd w' (hr0.out w' h)
    replace K2 := Lib.hid K2
    clear K hrd
    have K := K2
    clear K2
    go_wp2_with fail
    refine (number42 p v1 b1 bad1 8 (by omega) _ w0 _ K.out (fun w' h => hV1.out w' h.tail) hy1.out).mono ?_
    rintro e y2 ⟨v2, rfl, hrd, K2⟩
    rw [hs2.out] at hrd K2 ⊢
    have hV2 : Hid (∀ w', Hs w0 w' R → RdL U8 w' v2 b2) := fun w' h => hrd w' (hV1.out w' h)
    replace K2 := Lib.hid K2
    clear K hrd
    have K := K2
    clear K2
    go_wp2_with fail
    refine (number42 p v2 b2 bad2 8 (by omega) _ w0 _ K.out (fun w' h => hV2.out w' h.tail) hy2.out).mono ?_
    rintro e y3 ⟨v3, rfl, hrd, K2⟩
    rw [hs3.out] at hrd K2 ⊢
    have hV3 : Hid (∀ w', Hs w0 w' R → RdL U8 w' v3 b3) := fun w' h => hrd w' (hV2.out w' h)
    replace K2 := Lib.hid K2
    clear K hrd
    have K := K2
    clear K2
    go_wp2_with fail
    refine (number42 p v3 b3 bad3 2 (by omega) _ w0 _ K.out (fun w' h => hV3.out w' h.tail) hy3.out).mono ?_
    rintro e y4 ⟨v4, rfl, hrd, K2⟩
    rw [hs4.out] at hrd K2 ⊢
    have hV4 : Hid (∀ w', Hs w0 w' R → RdL U8 w' v4 l) := fun w' h => hrd w' (hV3.out w' h)
    replace K2 := Lib.hid K2
    clear K hrd
    have K := K2
    clear K2
    have K3 := Lib.hid (K.out.alloc (.cells #[.int .i64 k, .int .u64 ep, .int .u64 n, .int .i64 t] 39))
    clear K
    go_upto_region 3 with (fail)
    generalize World.alloc y4 _ = w3 at K3 ⊢
    generalize y4.heap.size = f at K3 ⊢
    have c0_ : w3.cell? ⟨f, 0, none⟩ = some (.int .i64 k) := K3.out.cellOf 0 rfl
    have c1_ : w3.cell? ⟨f, 1, none⟩ = some (.int .u64 ep) := K3.out.cellOf 1 rfl
    have c2_ : w3.cell? ⟨f, 2, none⟩ = some (.int .u64 n) := K3.out.cellOf 2 rfl
    have c3_ : w3.cell? ⟨f, 3, none⟩ = some (.int .i64 t) := K3.out.cellOf 3 rfl
    go_wp2_with fail
    refine (control21 (k, ep, n, t) hwf.out w3 w0 _ K3.out).mono ?_
    rintro e w4 ⟨A4, c4, rfl, K4⟩
    have T := Lib.hid (whole47 p v4 (.slice A0 nb cb) (.slice A4 (cout (k, ep, n, t)).length c4) l b (cout (k, ep, n, t)) bad (cerr (k, ep, n, t)) w4 w0 _ (K4.at2) (hV4.out w4 K4.tail.tail.tail.tail) (hr0.out w4 K4.tail.tail.tail.tail) K4.ls_rd hb0.out (cout_byt _))
    rw [hQ.out] at T
    clear K3 c0_ c1_ c2_ c3_
    replace K4 := Lib.hid K4.tail
    generalize (cout (k, ep, n, t)).length = nf at T ⊢
    generalize cerr (k, ep, n, t) = er at T ⊢
    go_wp2_with fail
    refine T.out.mono ?_
    rintro e w5 ⟨rfl, rfl⟩
    clear T
    go_upto_region 6 with (fail)
    have g0 := K4.out.at2.frozenOf 0
    have g1 := K4.out.at2.frozenOf 1
    have g2 := K4.out.at2.frozenOf 2
    have g3 := K4.out.at2.frozenOf 3
    have b0_ : w4.cell? ⟨q, 0, none⟩ = some (.int .i64 0) := K4.out.at2.cellOf 0 rfl
    have b1_ : w4.cell? ⟨q, 1, none⟩ = some (.int .u64 0) := K4.out.at2.cellOf 1 rfl
    have b2_ : w4.cell? ⟨q, 2, none⟩ = some (.int .u64 0) := K4.out.at2.cellOf 2 rfl
    have b3_ : w4.cell? ⟨q, 3, none⟩ = some (.int .i64 0) := K4.out.at2.cellOf 3 rfl
    have c0_ : w4.cell? ⟨f, 0, none⟩ = some (.int .i64 k) := K4.out.cellOf 0 rfl
    have c1_ : w4.cell? ⟨f, 1, none⟩ = some (.int .u64 ep) := K4.out.cellOf 1 rfl
    have c2_ : w4.cell? ⟨f, 2, none⟩ = some (.int .u64 n) := K4.out.cellOf 2 rfl
    have c3_ : w4.cell? ⟨f, 3, none⟩ = some (.int .i64 t) := K4.out.cellOf 3 rfl
    go_wp2_with fail
    have K9 := ((((K4.out.at2.setCell (i := 0) (.int .i64 k)).setCell (i := 1) (.int .u64 ep)).setCell (i := 2) (.int .u64 n)).setCell (i := 3) (.int .i64 t))
    generalize World.setCell _ _ _ = w9 at K9 ⊢
    simp only [List.setIfInBounds_toArray, List.set_cons_zero, List.set_cons_succ] at K9
    have r_0 : w9.cell? ⟨q, 0, none⟩ = some (.int .i64 k) := K9.cellOf 0 rfl
    have r_1 : w9.cell? ⟨q, 1, none⟩ = some (.int .u64 ep) := K9.cellOf 1 rfl
    have r_2 : w9.cell? ⟨q, 2, none⟩ = some (.int .u64 n) := K9.cellOf 2 rfl
    have r_3 : w9.cell? ⟨q, 3, none⟩ = some (.int .i64 t) := K9.cellOf 3 rfl
    refine bodyPost_ret (v := .tuple #[ctv (k, ep, n, t), .int .i64 0]) ?_ rfl ⟨rfl, K9.tail.tail.tail⟩
    simp [results, Try.results24, go_sem, r_0, r_1, r_2, r_3, ctv, zeroC]
  | false =>
    rw [if_neg (by simp)]
    go_enter Try.func24, Try.ntmps24
    go_upto_region 2 with (fail)
    generalize World.alloc _ _ = w1 at K ⊢
    generalize w.heap.size + 1 = p at K ⊢
    generalize w.heap.size = q at K ⊢
    go_wp2_with fail
    refine (number42 p (.slice A0 nb cb) b false 1 (by omega) _ w0 _ K.out (fun w' h => hr0.out w' h.tail) hb0.out).mono ?_
    rintro e y1 ⟨v1, rfl, hrd, K2⟩
    rw [hs1.out] at hrd K2 ⊢
    have hV1 : Hid (∀ w', Hs w0 w' R → RdL U8 w' v1 b1) := fun w' h => hrd w' (hr0.out w' h)
    replace K2 := Lib.hid K2
    clear K hrd
    have K := K2
    clear K2
    go_wp2_with fail
    refine (number42 p v1 b1 bad1 8 (by omega) _ w0 _ K.out (fun w' h => hV1.out w' h.tail) hy1.out).mono ?_
    rintro e y2 ⟨v2, rfl, hrd, K2⟩
    rw [hs2.out] at hrd K2 ⊢
    have hV2 : Hid (∀ w', Hs w0 w' R → RdL U8 w' v2 b2) := fun w' h => hrd w' (hV1.out w' h)
    replace K2 := Lib.hid K2
    clear K hrd
    have K := K2
    clear K2
    go_wp2_with fail
    refine (number42 p v2 b2 bad2 8 (by omega) _ w0 _ K.out (fun w' h => hV2.out w' h.tail) hy2.out).mono ?_
    rintro e y3 ⟨v3, rfl, hrd, K2⟩
    rw [hs3.out] at hrd K2 ⊢
    have hV3 : Hid (∀ w', Hs w0 w' R → RdL U8 w' v3 b3) := fun w' h => hrd w' (hV2.out w' h)
    replace K2 := Lib.hid K2
    clear K hrd
    have K := K2
    clear K2
    go_wp2_with fail
    refine (number42 p v3 b3 bad3 2 (by omega) _ w0 _ K.out (fun w' h => hV3.out w' h.tail) hy3.out).mono ?_
    rintro e y4 ⟨v4, rfl, hrd, K2⟩
    rw [hs4.out] at hrd K2 ⊢
    have hV4 : Hid (∀ w', Hs w0 w' R → RdL U8 w' v4 l) := fun w' h => hrd w' (hV3.out w' h)
    replace K2 := Lib.hid K2
    clear K hrd
    have K := K2
    clear K2
    have K3 := Lib.hid (K.out.alloc (.cells #[.int .i64 k, .int .u64 ep, .int .u64 n, .int .i64 t] 39))
    clear K
    go_upto_region 3 with (fail)
    generalize World.alloc y4 _ = w3 at K3 ⊢
    generalize y4.heap.size = f at K3 ⊢
    have c0_ : w3.cell? ⟨f, 0, none⟩ = some (.int .i64 k) := K3.out.cellOf 0 rfl
    have c1_ : w3.cell? ⟨f, 1, none⟩ = some (.int .u64 ep) := K3.out.cellOf 1 rfl
    have c2_ : w3.cell? ⟨f, 2, none⟩ = some (.int .u64 n) := K3.out.cellOf 2 rfl
    have c3_ : w3.cell? ⟨f, 3, none⟩ = some (.int .i64 t) := K3.out.cellOf 3 rfl
    go_wp2_with fail
    refine (control21 (k, ep, n, t) hwf.out w3 w0 _ K3.out).mono ?_
    rintro e w4 ⟨A4, c4, rfl, K4⟩
    have T := Lib.hid (whole47 p v4 (.slice A0 nb cb) (.slice A4 (cout (k, ep, n, t)).length c4) l b (cout (k, ep, n, t)) bad (cerr (k, ep, n, t)) w4 w0 _ (K4.at2) (hV4.out w4 K4.tail.tail.tail.tail) (hr0.out w4 K4.tail.tail.tail.tail) K4.ls_rd hb0.out (cout_byt _))
    rw [hQ.out] at T
    clear K3 c0_ c1_ c2_ c3_
    replace K4 := Lib.hid K4.tail
    generalize (cout (k, ep, n, t)).length = nf at T ⊢
    generalize cerr (k, ep, n, t) = er at T ⊢
    go_wp2_with fail
    refine T.out.mono ?_
    rintro e w5 ⟨rfl, rfl⟩
    clear T
    go_upto_region 5 with (fail)
    have g0 := K4.out.at2.frozenOf 0
    have g1 := K4.out.at2.frozenOf 1
    have g2 := K4.out.at2.frozenOf 2
    have g3 := K4.out.at2.frozenOf 3
    have b0_ : w4.cell? ⟨q, 0, none⟩ = some (.int .i64 0) := K4.out.at2.cellOf 0 rfl
    have b1_ : w4.cell? ⟨q, 1, none⟩ = some (.int .u64 0) := K4.out.at2.cellOf 1 rfl
    have b2_ : w4.cell? ⟨q, 2, none⟩ = some (.int .u64 0) := K4.out.at2.cellOf 2 rfl
    have b3_ : w4.cell? ⟨q, 3, none⟩ = some (.int .i64 0) := K4.out.at2.cellOf 3 rfl
    go_wp2_with fail
    have K9 := ((((K4.out.at2.setCell (i := 0) (.int .i64 0)).setCell (i := 1) (.int .u64 0)).setCell (i := 2) (.int .u64 0)).setCell (i := 3) (.int .i64 0))
    generalize World.setCell _ _ _ = w9 at K9 ⊢
    simp only [List.setIfInBounds_toArray, List.set_cons_zero, List.set_cons_succ] at K9
    have r_0 : w9.cell? ⟨q, 0, none⟩ = some (.int .i64 0) := K9.cellOf 0 rfl
    have r_1 : w9.cell? ⟨q, 1, none⟩ = some (.int .u64 0) := K9.cellOf 1 rfl
    have r_2 : w9.cell? ⟨q, 2, none⟩ = some (.int .u64 0) := K9.cellOf 2 rfl
    have r_3 : w9.cell? ⟨q, 3, none⟩ = some (.int .i64 0) := K9.cellOf 3 rfl
    refine bodyPost_ret (v := .tuple #[ctv zeroC, .int .i64 10]) ?_ rfl ⟨rfl, K9.tail.tail.tail⟩
    simp [results, Try.results24, go_sem, r_0, r_1, r_2, r_3, ctv, zeroC]
set_option maxRecDepth 100000 in
set_option maxHeartbeats 4000000 in
theorem ropenC36 (v : Value) (b : List Int) (w w0 : World) (R : List HP) (H : Hs w0 w R) (hr : ∀ w', Hs w0 w' R → RdL U8 w' v b) (hb : Byt b) :
    Calls Try.prog 36 #[v] w fun e w' => e = .returned (.tuple #[ctv (opC b).1, .int .i64 (opC b).2]) ∧ Hs w0 w' R := by
  obtain ⟨A0, cb, hv⟩ := (hr w H).form
  subst hv
  obtain ⟨nb, hnb⟩ : ∃ n, b.length = n := ⟨_, rfl⟩
  rw [hnb] at hr ⊢
  replace hnb := Lib.hid hnb
  have K := ((H.alloc (.cells #[.int .i64 0, .int .u64 0, .int .u64 0, .int .i64 0] 39)).alloc (.cells #[.slice A0 nb cb, .bool false] 131))
  rw [show (w.alloc (.cells #[.int .i64 0, .int .u64 0, .int .u64 0, .int .i64 0] 39)).heap.size = w.heap.size + 1 from Array.size_push ..] at K
  obtain ⟨⟨k, b1, bad1⟩, hs1⟩ : ∃ x, rnumR 1 (b, false) = x := ⟨_, rfl⟩
  obtain ⟨⟨ep, b2, bad2⟩, hs2⟩ : ∃ x, rnumR 8 (b1, bad1) = x := ⟨_, rfl⟩
  obtain ⟨⟨n, b3, bad3⟩, hs3⟩ : ∃ x, rnumR 8 (b2, bad2) = x := ⟨_, rfl⟩
  obtain ⟨⟨t, l, bad⟩, hs4⟩ : ∃ x, rnumR 2 (b3, bad3) = x := ⟨_, rfl⟩
  have hx : rdCtR (b, false) = ((k, ep, n, t), (l, bad)) := by unfold rdCtR rdPair; dsimp only; rw [hs1]; dsimp only; rw [hs2]; dsimp only; rw [hs3]; dsimp only; rw [hs4]
  have hy1 : Hid (Byt b1) := by have := (good_num 1).bytR (b, false) hb; rw [hs1] at this; exact this
  have hy2 : Hid (Byt b2) := by have := (good_num 8).bytR (b1, bad1) hy1.out; rw [hs2] at this; exact this
  have hy3 : Hid (Byt b3) := by have := (good_num 8).bytR (b2, bad2) hy2.out; rw [hs3] at this; exact this
  have hk : 0 ≤ k ∧ k < 256 := by have := rnumR_lt 1 (b, false) hb; rw [hs1] at this; exact this
  have ht : 0 ≤ t ∧ t < 65536 := by have := rnumR_lt 2 (b3, bad3) hy3.out; rw [hs4] at this; exact this
  obtain ⟨hk0, hk1⟩ := hk
  obtain ⟨ht0, ht1⟩ := ht
  have hwf : Hid (CtWf (k, ep, n, t)) := ct_wfR (s := (b, false)) hb (by rw [hx])
  have hop := opC_ref hx
  have hle : (!l.isEmpty) = decide ((0 : Int) < (l.length : Int)) := by cases l with
    | nil => rfl
    | cons x r => symm; exact decide_eq_true (by rw [List.length_cons]; omega)
  rw [hle] at hop
  clear hle
  have hle2 : Hid (decide ((0 : Int) < (l.length : Int)) = decide (0 < l.length)) := by show _ = _; rw [decide_eq_decide]; omega
  have hr0 := Lib.hid hr
  have hb0 := Lib.hid hb
  clear hx hr hb H
  replace hs1 := Lib.hid hs1
  replace hs2 := Lib.hid hs2
  replace hs3 := Lib.hid hs3
  replace hs4 := Lib.hid hs4
  replace K := Lib.hid K
  obtain ⟨Q, hQ⟩ : ∃ Q, (bad || (decide ((0 : Int) < (l.length : Int)) || cerr (k, ep, n, t) != 0)) = Q := ⟨_, rfl⟩
  rw [hQ] at hop
  rw [hop]
  clear hop
  replace hQ := Lib.hid hQ
  cases Q with
  | true =>
    rw [if_pos rfl]
    go_enter Try.func36, Try.ntmps36
    go_upto_region 2 with (fail)
    generalize World.alloc _ _ = w1 at K ⊢
    generalize w.heap.size + 1 = p at K ⊢
    generalize w.heap.size = q at K ⊢
    go_wp2_with fail
    refine (num74 p (.slice A0 nb cb) b false 1 (by omega) _ w0 _ K.out (fun w' h => hr0.out w' h.tail) hb0.out).mono ?_
    rintro e y1 ⟨v1, rfl, hrd, K2⟩
    rw [hs1.out] at hrd K2 ⊢
    have hV1 : Hid (∀ w', Hs w0 w' R → RdL U8 w' v1 b1) := fun w' h => hrd w' (hr0.out w' h)
    replace K2 := Lib.hid K2
    clear K hrd
    have K := K2
    clear K2
    go_wp2_with fail
    refine (num74 p v1 b1 bad1 8 (by omega) _ w0 _ K.out (fun w' h => hV1.out w' h.tail) hy1.out).mono ?_
    rintro e y2 ⟨v2, rfl, hrd, K2⟩
    rw [hs2.out] at hrd K2 ⊢
    have hV2 : Hid (∀ w', Hs w0 w' R → RdL U8 w' v2 b2) := fun w' h => hrd w' (hV1.out w' h)
    replace K2 := Lib.hid K2
    clear K hrd
    have K := K2
    clear K2
    go_wp2_with fail
    refine (num74 p v2 b2 bad2 8 (by omega) _ w0 _ K.out (fun w' h => hV2.out w' h.tail) hy2.out).mono ?_
    rintro e y3 ⟨v3, rfl, hrd, K2⟩
    rw [hs3.out] at hrd K2 ⊢
    have hV3 : Hid (∀ w', Hs w0 w' R → RdL U8 w' v3 b3) := fun w' h => hrd w' (hV2.out w' h)
    replace K2 := Lib.hid K2
    clear K hrd
    have K := K2
    clear K2
    go_wp2_with fail
    refine (num74 p v3 b3 bad3 2 (by omega) _ w0 _ K.out (fun w' h => hV3.out w' h.tail) hy3.out).mono ?_
    rintro e y4 ⟨v4, rfl, hrd, K2⟩
    rw [hs4.out] at hrd K2 ⊢
    have hV4 : Hid (∀ w', Hs w0 w' R → RdL U8 w' v4 l) := fun w' h => hrd w' (hV3.out w' h)
    replace K2 := Lib.hid K2
    clear K hrd
    have K := K2
    clear K2
    have K3 := Lib.hid (K.out.alloc (.cells #[.int .i64 k, .int .u64 ep, .int .u64 n, .int .i64 t] 39))
    clear K
    go_upto_region 3 with (fail)
    generalize World.alloc y4 _ = w3 at K3 ⊢
    generalize y4.heap.size = f at K3 ⊢
    have c0_ : w3.cell? ⟨f, 0, none⟩ = some (.int .i64 k) := K3.out.cellOf 0 rfl
    have c1_ : w3.cell? ⟨f, 1, none⟩ = some (.int .u64 ep) := K3.out.cellOf 1 rfl
    have c2_ : w3.cell? ⟨f, 2, none⟩ = some (.int .u64 n) := K3.out.cellOf 2 rfl
    have c3_ : w3.cell? ⟨f, 3, none⟩ = some (.int .i64 t) := K3.out.cellOf 3 rfl
    go_wp2_with fail
    refine (rcontrol22 (k, ep, n, t) hwf.out w3 w0 _ K3.out).mono ?_
    rintro e w4 ⟨A4, c4, rfl, K4⟩
    clear K3 c0_ c1_ c2_ c3_
    replace K4 := Lib.hid K4.tail
    generalize (cout (k, ep, n, t)).length = nf
    generalize cerr (k, ep, n, t) = er at hQ ⊢
    obtain ⟨A2, c2, hv2⟩ := (hV4.out w4 K4.out.tail.tail.tail).form
    subst hv2
    obtain ⟨nl, hnl⟩ : ∃ n, l.length = n := ⟨_, rfl⟩
    rw [hnl] at hV4 hQ hle2 K4
    replace hnl := Lib.hid hnl
    have x0 : w4.cell? ⟨p, 0, none⟩ = some (.slice A2 nl c2) := K4.out.at1.cellOf 0 rfl
    have x1 : w4.cell? ⟨p, 1, none⟩ = some (.bool bad) := K4.out.at1.cellOf 1 rfl
    cases bad with
    | true =>
      go_upto_region 5 with (fail)
      clear x0 x1
      have g0 := K4.out.at2.frozenOf 0
      have g1 := K4.out.at2.frozenOf 1
      have g2 := K4.out.at2.frozenOf 2
      have g3 := K4.out.at2.frozenOf 3
      have b0_ : w4.cell? ⟨q, 0, none⟩ = some (.int .i64 0) := K4.out.at2.cellOf 0 rfl
      have b1_ : w4.cell? ⟨q, 1, none⟩ = some (.int .u64 0) := K4.out.at2.cellOf 1 rfl
      have b2_ : w4.cell? ⟨q, 2, none⟩ = some (.int .u64 0) := K4.out.at2.cellOf 2 rfl
      have b3_ : w4.cell? ⟨q, 3, none⟩ = some (.int .i64 0) := K4.out.at2.cellOf 3 rfl
      go_wp2_with fail
      have K9 := ((((K4.out.at2.setCell (i := 0) (.int .i64 0)).setCell (i := 1) (.int .u64 0)).setCell (i := 2) (.int .u64 0)).setCell (i := 3) (.int .i64 0))
      generalize World.setCell _ _ _ = w9 at K9 ⊢
      simp only [List.setIfInBounds_toArray, List.set_cons_zero, List.set_cons_succ] at K9
      have r_0 : w9.cell? ⟨q, 0, none⟩ = some (.int .i64 0) := K9.cellOf 0 rfl
      have r_1 : w9.cell? ⟨q, 1, none⟩ = some (.int .u64 0) := K9.cellOf 1 rfl
      have r_2 : w9.cell? ⟨q, 2, none⟩ = some (.int .u64 0) := K9.cellOf 2 rfl
      have r_3 : w9.cell? ⟨q, 3, none⟩ = some (.int .i64 0) := K9.cellOf 3 rfl
      refine bodyPost_ret (v := .tuple #[ctv zeroC, .int .i64 10]) ?_ rfl ⟨rfl, K9.tail.tail.tail⟩
      simp [results, Try.results36, go_sem, r_0, r_1, r_2, r_3, ctv, zeroC]
    | false =>
      rcases Bool.eq_false_or_eq_true (decide ((0 : Int) < (nl : Int))) with hd | hd
      · have hd2 : decide (0 < nl) = true := by rw [← hle2.out]; exact hd
        go_upto_region 5 with (fail)
        clear x0 x1 hd hd2
        have g0 := K4.out.at2.frozenOf 0
        have g1 := K4.out.at2.frozenOf 1
        have g2 := K4.out.at2.frozenOf 2
        have g3 := K4.out.at2.frozenOf 3
        have b0_ : w4.cell? ⟨q, 0, none⟩ = some (.int .i64 0) := K4.out.at2.cellOf 0 rfl
        have b1_ : w4.cell? ⟨q, 1, none⟩ = some (.int .u64 0) := K4.out.at2.cellOf 1 rfl
        have b2_ : w4.cell? ⟨q, 2, none⟩ = some (.int .u64 0) := K4.out.at2.cellOf 2 rfl
        have b3_ : w4.cell? ⟨q, 3, none⟩ = some (.int .i64 0) := K4.out.at2.cellOf 3 rfl
        go_wp2_with fail
        have K9 := ((((K4.out.at2.setCell (i := 0) (.int .i64 0)).setCell (i := 1) (.int .u64 0)).setCell (i := 2) (.int .u64 0)).setCell (i := 3) (.int .i64 0))
        generalize World.setCell _ _ _ = w9 at K9 ⊢
        simp only [List.setIfInBounds_toArray, List.set_cons_zero, List.set_cons_succ] at K9
        have r_0 : w9.cell? ⟨q, 0, none⟩ = some (.int .i64 0) := K9.cellOf 0 rfl
        have r_1 : w9.cell? ⟨q, 1, none⟩ = some (.int .u64 0) := K9.cellOf 1 rfl
        have r_2 : w9.cell? ⟨q, 2, none⟩ = some (.int .u64 0) := K9.cellOf 2 rfl
        have r_3 : w9.cell? ⟨q, 3, none⟩ = some (.int .i64 0) := K9.cellOf 3 rfl
        refine bodyPost_ret (v := .tuple #[ctv zeroC, .int .i64 10]) ?_ rfl ⟨rfl, K9.tail.tail.tail⟩
        simp [results, Try.results36, go_sem, r_0, r_1, r_2, r_3, ctv, zeroC]
      · have hd2 : decide (0 < nl) = false := by rw [← hle2.out]; exact hd
        have he : (er != 0) = true := by have := hQ.out; rw [hd] at this; exact this
        go_upto_region 5 with (fail)
        clear x0 x1 hd hd2 he
        have g0 := K4.out.at2.frozenOf 0
        have g1 := K4.out.at2.frozenOf 1
        have g2 := K4.out.at2.frozenOf 2
        have g3 := K4.out.at2.frozenOf 3
        have b0_ : w4.cell? ⟨q, 0, none⟩ = some (.int .i64 0) := K4.out.at2.cellOf 0 rfl
        have b1_ : w4.cell? ⟨q, 1, none⟩ = some (.int .u64 0) := K4.out.at2.cellOf 1 rfl
        have b2_ : w4.cell? ⟨q, 2, none⟩ = some (.int .u64 0) := K4.out.at2.cellOf 2 rfl
        have b3_ : w4.cell? ⟨q, 3, none⟩ = some (.int .i64 0) := K4.out.at2.cellOf 3 rfl
        go_wp2_with fail
        have K9 := ((((K4.out.at2.setCell (i := 0) (.int .i64 0)).setCell (i := 1) (.int .u64 0)).setCell (i := 2) (.int .u64 0)).setCell (i := 3) (.int .i64 0))
        generalize World.setCell _ _ _ = w9 at K9 ⊢
        simp only [List.setIfInBounds_toArray, List.set_cons_zero, List.set_cons_succ] at K9
        have r_0 : w9.cell? ⟨q, 0, none⟩ = some (.int .i64 0) := K9.cellOf 0 rfl
        have r_1 : w9.cell? ⟨q, 1, none⟩ = some (.int .u64 0) := K9.cellOf 1 rfl
        have r_2 : w9.cell? ⟨q, 2, none⟩ = some (.int .u64 0) := K9.cellOf 2 rfl
        have r_3 : w9.cell? ⟨q, 3, none⟩ = some (.int .i64 0) := K9.cellOf 3 rfl
        refine bodyPost_ret (v := .tuple #[ctv zeroC, .int .i64 10]) ?_ rfl ⟨rfl, K9.tail.tail.tail⟩
        simp [results, Try.results36, go_sem, r_0, r_1, r_2, r_3, ctv, zeroC]
  | false =>
    rw [if_neg (by simp)]
    go_enter Try.func36, Try.ntmps36
    go_upto_region 2 with (fail)
    generalize World.alloc _ _ = w1 at K ⊢
    generalize w.heap.size + 1 = p at K ⊢
    generalize w.heap.size = q at K ⊢
    go_wp2_with fail
    refine (num74 p (.slice A0 nb cb) b false 1 (by omega) _ w0 _ K.out (fun w' h => hr0.out w' h.tail) hb0.out).mono ?_
    rintro e y1 ⟨v1, rfl, hrd, K2⟩
    rw [hs1.out] at hrd K2 ⊢
    have hV1 : Hid (∀ w', Hs w0 w' R → RdL U8 w' v1 b1) := fun w' h => hrd w' (hr0.out w' h)
    replace K2 := Lib.hid K2
    clear K hrd
    have K := K2
    clear K2
    go_wp2_with fail
    refine (num74 p v1 b1 bad1 8 (by omega) _ w0 _ K.out (fun w' h => hV1.out w' h.tail) hy1.out).mono ?_
    rintro e y2 ⟨v2, rfl, hrd, K2⟩
    rw [hs2.out] at hrd K2 ⊢
    have hV2 : Hid (∀ w', Hs w0 w' R → RdL U8 w' v2 b2) := fun w' h => hrd w' (hV1.out w' h)
    replace K2 := Lib.hid K2
    clear K hrd
    have K := K2
    clear K2
    go_wp2_with fail
    refine (num74 p v2 b2 bad2 8 (by omega) _ w0 _ K.out (fun w' h => hV2.out w' h.tail) hy2.out).mono ?_
    rintro e y3 ⟨v3, rfl, hrd, K2⟩
    rw [hs3.out] at hrd K2 ⊢
    have hV3 : Hid (∀ w', Hs w0 w' R → RdL U8 w' v3 b3) := fun w' h => hrd w' (hV2.out w' h)
    replace K2 := Lib.hid K2
    clear K hrd
    have K := K2
    clear K2
    go_wp2_with fail
    refine (num74 p v3 b3 bad3 2 (by omega) _ w0 _ K.out (fun w' h => hV3.out w' h.tail) hy3.out).mono ?_
    rintro e y4 ⟨v4, rfl, hrd, K2⟩
    rw [hs4.out] at hrd K2 ⊢
    have hV4 : Hid (∀ w', Hs w0 w' R → RdL U8 w' v4 l) := fun w' h => hrd w' (hV3.out w' h)
    replace K2 := Lib.hid K2
    clear K hrd
    have K := K2
    clear K2
    have K3 := Lib.hid (K.out.alloc (.cells #[.int .i64 k, .int .u64 ep, .int .u64 n, .int .i64 t] 39))
    clear K
    go_upto_region 3 with (fail)
    generalize World.alloc y4 _ = w3 at K3 ⊢
    generalize y4.heap.size = f at K3 ⊢
    have c0_ : w3.cell? ⟨f, 0, none⟩ = some (.int .i64 k) := K3.out.cellOf 0 rfl
    have c1_ : w3.cell? ⟨f, 1, none⟩ = some (.int .u64 ep) := K3.out.cellOf 1 rfl
    have c2_ : w3.cell? ⟨f, 2, none⟩ = some (.int .u64 n) := K3.out.cellOf 2 rfl
    have c3_ : w3.cell? ⟨f, 3, none⟩ = some (.int .i64 t) := K3.out.cellOf 3 rfl
    go_wp2_with fail
    refine (rcontrol22 (k, ep, n, t) hwf.out w3 w0 _ K3.out).mono ?_
    rintro e w4 ⟨A4, c4, rfl, K4⟩
    clear K3 c0_ c1_ c2_ c3_
    replace K4 := Lib.hid K4.tail
    generalize (cout (k, ep, n, t)).length = nf
    generalize cerr (k, ep, n, t) = er at hQ ⊢
    obtain ⟨A2, c2, hv2⟩ := (hV4.out w4 K4.out.tail.tail.tail).form
    subst hv2
    obtain ⟨nl, hnl⟩ : ∃ n, l.length = n := ⟨_, rfl⟩
    rw [hnl] at hV4 hQ hle2 K4
    replace hnl := Lib.hid hnl
    have x0 : w4.cell? ⟨p, 0, none⟩ = some (.slice A2 nl c2) := K4.out.at1.cellOf 0 rfl
    have x1 : w4.cell? ⟨p, 1, none⟩ = some (.bool bad) := K4.out.at1.cellOf 1 rfl
    cases bad with
    | true => exact absurd hQ.out (by simp)
    | false =>
      have hq2 := hQ.out
      rw [Bool.false_or, Bool.or_eq_false_iff] at hq2
      obtain ⟨hd, he⟩ := hq2
      have hd2 : decide (0 < nl) = false := by rw [← hle2.out]; exact hd
      go_upto_region 6 with (fail)
      clear x0 x1 hd hd2 he
      have g0 := K4.out.at2.frozenOf 0
      have g1 := K4.out.at2.frozenOf 1
      have g2 := K4.out.at2.frozenOf 2
      have g3 := K4.out.at2.frozenOf 3
      have b0_ : w4.cell? ⟨q, 0, none⟩ = some (.int .i64 0) := K4.out.at2.cellOf 0 rfl
      have b1_ : w4.cell? ⟨q, 1, none⟩ = some (.int .u64 0) := K4.out.at2.cellOf 1 rfl
      have b2_ : w4.cell? ⟨q, 2, none⟩ = some (.int .u64 0) := K4.out.at2.cellOf 2 rfl
      have b3_ : w4.cell? ⟨q, 3, none⟩ = some (.int .i64 0) := K4.out.at2.cellOf 3 rfl
      have c0_ : w4.cell? ⟨f, 0, none⟩ = some (.int .i64 k) := K4.out.cellOf 0 rfl
      have c1_ : w4.cell? ⟨f, 1, none⟩ = some (.int .u64 ep) := K4.out.cellOf 1 rfl
      have c2_ : w4.cell? ⟨f, 2, none⟩ = some (.int .u64 n) := K4.out.cellOf 2 rfl
      have c3_ : w4.cell? ⟨f, 3, none⟩ = some (.int .i64 t) := K4.out.cellOf 3 rfl
      go_wp2_with fail
      have K9 := ((((K4.out.at2.setCell (i := 0) (.int .i64 k)).setCell (i := 1) (.int .u64 ep)).setCell (i := 2) (.int .u64 n)).setCell (i := 3) (.int .i64 t))
      generalize World.setCell _ _ _ = w9 at K9 ⊢
      simp only [List.setIfInBounds_toArray, List.set_cons_zero, List.set_cons_succ] at K9
      have r_0 : w9.cell? ⟨q, 0, none⟩ = some (.int .i64 k) := K9.cellOf 0 rfl
      have r_1 : w9.cell? ⟨q, 1, none⟩ = some (.int .u64 ep) := K9.cellOf 1 rfl
      have r_2 : w9.cell? ⟨q, 2, none⟩ = some (.int .u64 n) := K9.cellOf 2 rfl
      have r_3 : w9.cell? ⟨q, 3, none⟩ = some (.int .i64 t) := K9.cellOf 3 rfl
      refine bodyPost_ret (v := .tuple #[ctv (k, ep, n, t), .int .i64 0]) ?_ rfl ⟨rfl, K9.tail.tail.tail⟩
      simp [results, Try.results36, go_sem, r_0, r_1, r_2, r_3, ctv, zeroC]
end Go.Proofs.Ytjdkpogkhecijaa

import Derived.Test.YtjdkpogkhecijaaTh
import Derived.Test.YtjdkpogkhecijaaWh
import Derived.IntWalk
import Derived.Test.YtjdkpogkhecijaaProg
import Derived.Test.YtjdkpogkhecijaaLs
import Derived.Outline
import Derived.StillTailTactics
import Derived.Deep.DeepCutAuto
import Derived.Deep.CutBlock
import Derived.Deep.LoopGhost
import Derived.Deep.QuietTactic
import Derived.BigQuiet
import Derived.Deep.RegionHeld3
import Derived.Deep.RegionLaw
set_option linter.unusedVariables false
set_option linter.unusedSimpArgs false
namespace Go.Proofs.Ytjdkpogkhecijaa
open Go.RowKit
/-! ### OpenManifest -/
abbrev Mn := Int × Int × List ByteArray
def rdMn : Rst → Mn × Rst := rdPair (rnum 8) (rdPair (rnum 8) (rdList rdFile))
def rdMnR : Rst → Mn × Rst := rdPair (rnumR 8) (rdPair (rnumR 8) (rdListR rdFileR))
theorem good_mn : Good rdMn rdMnR (fun x => put 8 x.1 ++ (put 8 x.2.1 ++ (put 2 (x.2.2.length : Int) ++ x.2.2.flatMap fileB))) (fun x => (0 ≤ x.1 ∧ x.1 < 256 ^ 8) ∧ (0 ≤ x.2.1 ∧ x.2.1 < 256 ^ 8) ∧ x.2.2.length < 65536 ∧ ∀ s ∈ x.2.2, s.size < 256) (fun x => True ∧ True ∧ ∀ s ∈ x.2.2, s.size ≤ 32) := (good_num 8).pair ((good_num 8).pair good_file.list)
def zeroM : Mn := (0, 0, [])
def opM (b : List Int) : Mn × Int := if (rdMn (b, false)).2 = ([], false) ∧ mbad (rdMn (b, false)).1.2.2 = false then ((rdMn (b, false)).1, 0) else (zeroM, 10)
theorem thg_len {α : Type} (rd : Rst → α × Rst) : ∀ (n : Nat) (s : Rst) (out : List α), (thg rd n s out).1.length ≤ out.length + n := by
  intro n
  induction n with
  | zero => intro s out; exact Nat.le_refl _
  | succ n ih =>
    intro s out
    unfold thg
    split
    · exact Nat.zero_le _
    · have := ih (rd s).2 (out ++ [(rd s).1])
      rw [List.length_append] at this
      simp at this
      omega
theorem rdList_len {α : Type} (rd : Rst → α × Rst) (s : Rst) (h : Byt s.1) : (rdList rd s).1.length ≤ 65535 := by
  have h1 := rnum_lt 2 s h
  rw [show (256 : Int) ^ 2 = 65536 from rfl] at h1
  have := thg_len rd (rnum 2 s).1.toNat (rnum 2 s).2 []
  unfold rdList
  simp at this
  omega
theorem mbad_no {l : List ByteArray} : mbad l = false ↔ l.length ≤ 65535 ∧ ∀ s ∈ l, s.size ≤ 32 := by
  unfold mbad
  rw [Bool.or_eq_false_iff, decide_eq_false_iff_not, List.any_eq_false]
  refine ⟨fun h => ⟨by omega, fun s hs => ?_⟩, fun h => ⟨by omega, fun s hs => ?_⟩⟩
  · have := h.2 s hs
    unfold longN at this
    simpa using this
  · have := h.2 s hs
    unfold longN
    simpa using this
theorem opM_yes {b : List Int} (hb : Byt b) {n ep : Int} {fs : List ByteArray} {l : List Int} {bad : Bool} (h : rdMn (b, false) = ((n, ep, fs), (l, bad))) : opM b = if (!bad && (l.isEmpty && (merr fs == 0 && decide (b = mout n ep fs)))) = true then ((n, ep, fs), 0) else (zeroM, 10) := by
  unfold opM
  rw [h]
  dsimp only
  by_cases hc : (l, bad) = (([], false) : Rst) ∧ mbad fs = false
  · rw [if_pos hc]
    obtain ⟨hc, a2⟩ := hc
    injection hc with h1 h2
    subst h1
    subst h2
    obtain ⟨a1, _⟩ := good_mn.sound (b, false) hb rfl (by rw [h])
    rw [h] at a1
    dsimp only at a1
    rw [List.append_nil] at a1
    have e1 : merr fs = 0 := if_neg (by rw [a2]; simp)
    have e2 : mout n ep fs = manB n ep fs := if_neg (by rw [a2]; simp)
    rw [if_pos (by rw [e1, e2]; unfold manB; rw [← a1]; simp)]
  · rw [if_neg hc, if_neg]
    intro h3
    simp only [Bool.and_eq_true, Bool.not_eq_true', List.isEmpty_iff, beq_iff_eq] at h3
    refine hc ⟨by rw [h3.1, h3.2.1], ?_⟩
    have h4 := h3.2.2.1
    unfold merr at h4
    cases h5 : mbad fs with
    | false => rfl
    | true => rw [h5, if_pos rfl] at h4; cases h4
theorem opM_ref {b : List Int} (hb : Byt b) {x : Mn} {l : List Int} {bad : Bool} (h : rdMnR (b, false) = (x, (l, bad))) : opM b = if (bad || !l.isEmpty) = true then (zeroM, 10) else (x, 0) := by
  unfold opM
  by_cases hbd : (rdMn (b, false)).2.2 = true ∨ ¬ ∀ s ∈ (rdMn (b, false)).1.2.2, s.size ≤ 32
  · have := good_mn.bads (b, false) rfl (hbd.imp id fun h2 h3 => h2 h3.2.2)
    rw [h] at this
    dsimp only at this
    subst this
    rw [if_neg]
    · rfl
    · intro h4
      rcases hbd with h5 | h5
      · rw [h4.1] at h5; cases h5
      · exact h5 (mbad_no.1 h4.2).2
  · have h1 : (rdMn (b, false)).2.2 = false := by
      cases e : (rdMn (b, false)).2.2 with
      | false => rfl
      | true => exact absurd (.inl e) hbd
    have h2 : ∀ s ∈ (rdMn (b, false)).1.2.2, s.size ≤ 32 := Classical.byContradiction fun h => hbd (.inr h)
    have h3 := good_mn.agree (b, false) rfl h1 ⟨trivial, trivial, h2⟩
    obtain ⟨_, _, _, h5, _⟩ := good_mn.sound (b, false) hb rfl h1
    have hm : mbad (rdMn (b, false)).1.2.2 = false := mbad_no.2 ⟨by omega, h2⟩
    rw [h] at h3
    rw [← h3] at h1 hm ⊢
    dsimp only at h1 hm ⊢
    subst h1
    by_cases hl : l = []
    · subst hl; rw [if_pos ⟨rfl, hm⟩]; rfl
    · rw [if_neg (by intro h4; injection h4.1 with h5 _; exact hl h5), if_pos (by cases l with | nil => exact absurd rfl hl | cons x r => rfl)]
def MP (w0 : World) (R : List HP) (x : Mn × Int) (e : Ending) (w' : World) : Prop :=
  ∃ A c, e = .returned (.tuple #[.agg #[.int .u64 x.1.1, .int .u64 x.1.2.1, .slice A x.1.2.2.length c], .int .i64 x.2]) ∧ Hs w0 w' (Ls Enc.str 9 (.slice A x.1.2.2.length c) x.1.2.2 :: R)
set_option maxRecDepth 100000 in
set_option maxHeartbeats 4000000 in
theorem openM31 (v : Value) (b : List Int) (w w0 : World) (R : List HP) (H : Hs w0 w R) (hr : ∀ w', Hs w0 w' R → RdL U8 w' v b) (hb : Byt b) :
    Calls Try.prog 31 #[v] w (MP w0 R (opM b)) := by
  obtain ⟨A0, cb, hv⟩ := (hr w H).form
  subst hv
  obtain ⟨nb, hnb⟩ : ∃ n, b.length = n := ⟨_, rfl⟩
  rw [hnb] at hr ⊢
  replace hnb := Lib.hid hnb
  have K := ((H.alloc (.cells #[.int .u64 0, .int .u64 0, .slice none 0 0] 62)).alloc (.cells #[.slice A0 nb cb, .bool false] 90))
  rw [show (w.alloc (.cells #[.int .u64 0, .int .u64 0, .slice none 0 0] 62)).heap.size = w.heap.size + 1 from Array.size_push ..] at K
  obtain ⟨⟨n, b1, bad1⟩, hs1⟩ : ∃ x, rnum 8 (b, false) = x := ⟨_, rfl⟩
  obtain ⟨⟨ep, b2, bad2⟩, hs2⟩ : ∃ x, rnum 8 (b1, bad1) = x := ⟨_, rfl⟩
  obtain ⟨⟨fs, l, bad⟩, hs3⟩ : ∃ x, rdList rdFile (b2, bad2) = x := ⟨_, rfl⟩
  have hx : rdMn (b, false) = ((n, ep, fs), (l, bad)) := by unfold rdMn rdPair; dsimp only; rw [hs1]; dsimp only; rw [hs2]; dsimp only; rw [hs3]
  have hy1 : Hid (Byt b1) := by have := (good_num 8).byt (b, false) hb; rw [hs1] at this; exact this
  have hy2 : Hid (Byt b2) := by have := (good_num 8).byt (b1, bad1) hy1.out; rw [hs2] at this; exact this
  have hn6 : Hid (U64 n) := by have := rnum_lt 8 (b, false) hb; rw [hs1, p8] at this; exact this
  have he6 : Hid (U64 ep) := by have := rnum_lt 8 (b1, bad1) hy1.out; rw [hs2, p8] at this; exact this
  have hfl : Hid (fs.length ≤ 1000000000) := by have := rdList_len rdFile (b2, bad2) hy2.out; rw [hs3] at this; show _ ≤ _; dsimp only at this; omega
  have hop := opM_yes hb hx
  have hr0 := Lib.hid hr
  have hb0 := Lib.hid hb
  clear hx hr hb H
  replace hs1 := Lib.hid hs1
  replace hs2 := Lib.hid hs2
  replace hs3 := Lib.hid hs3
  replace K := Lib.hid K
  obtain ⟨Q, hQ⟩ : ∃ Q, (!bad && (l.isEmpty && (merr fs == 0 && decide (b = mout n ep fs)))) = Q := ⟨_, rfl⟩
  rw [hQ] at hop
  rw [hop]
  clear hop
  replace hQ := Lib.hid hQ
  obtain ⟨nF, hnF⟩ : ∃ x, fs.length = x := ⟨_, rfl⟩
  cases Q with
  | true =>
    rw [if_pos rfl]
    go_enter Try.func31, Try.ntmps31
    go_upto_region 2 with (fail)
    generalize World.alloc _ _ = w1 at K ⊢
    generalize w.heap.size + 1 = p at K ⊢
    generalize w.heap.size = q at K ⊢
    go_wp2_with fail
    refine (number42 p (.slice A0 nb cb) b false 8 (by omega) _ w0 _ K.out (fun w' h => hr0.out w' h.tail) hb0.out).mono ?_
    rintro e y1 ⟨v1, rfl, hrd, K2⟩
    rw [hs1.out] at hrd K2 ⊢
    have hV1 : Hid (∀ w', Hs w0 w' R → RdL U8 w' v1 b1) := fun w' h => hrd w' (hr0.out w' h)
    replace K2 := Lib.hid K2
    clear K hrd
    go_wp2_with fail
    refine (number42 p v1 b1 bad1 8 (by omega) _ w0 _ K2.out (fun w' h => hV1.out w' h.tail) hy1.out).mono ?_
    rintro e y2 ⟨v2, rfl, hrd, K3⟩
    rw [hs2.out] at hrd K3 ⊢
    have hV2 : Hid (∀ w', Hs w0 w' R → RdL U8 w' v2 b2) := fun w' h => hrd w' (hV1.out w' h)
    have Km := Lib.hid ((K3.alloc (.cells #[.int .u64 n, .int .u64 ep, .slice none 0 0] 62)).at1)
    clear K2 hrd K3
    go_upto_region 3 with (fail)
    generalize World.alloc y2 _ = w3 at Km ⊢
    generalize y2.heap.size = f at Km ⊢
    go_wp2_with fail
    refine (things63 p v2 b2 bad2 w3 w0 _ Km.out (fun w' h => hV2.out w' h.tail.tail) hy2.out).mono ?_
    rw [hs3.out]
    rintro e w4 ⟨AF, cF, v3, rfl, hrd, K4⟩
    dsimp only at hrd K4 ⊢
    rw [hnF] at K4 ⊢
    have hV3 : Hid (∀ w', Hs w0 w' R → RdL U8 w' v3 l) := fun w' h => hrd w' (hV2.out w' h)
    replace K4 := Lib.hid K4
    clear hrd Km
    have d2 : w4.cell? ⟨f, 2, none⟩ = some (.slice none 0 0) := K4.out.at2.cellOf 2 rfl
    have e2 := K4.out.at2.frozenOf 2
    have K5 := Lib.hid (K4.out.at2.setCell (i := 2) (.slice AF nF cF))
    simp only [List.setIfInBounds_toArray, List.set_cons_zero, List.set_cons_succ] at K5
    go_upto_region 4 with (fail)
    clear d2 e2 K4
    generalize World.setCell _ _ _ = w5 at K5 ⊢
    have c0_ : w5.cell? ⟨f, 0, none⟩ = some (.int .u64 n) := K5.out.cellOf 0 rfl
    have c1_ : w5.cell? ⟨f, 1, none⟩ = some (.int .u64 ep) := K5.out.cellOf 1 rfl
    have c2_ : w5.cell? ⟨f, 2, none⟩ = some (.slice AF nF cF) := K5.out.cellOf 2 rfl
    go_wp2_with fail
    refine (manifest29 n ep hn6.out he6.out AF nF cF fs w5 w0 _ K5.out (fun w' h => h.at1.ls_rd) hfl.out).mono ?_
    rintro e w6 ⟨A6, c6, rfl, K6⟩
    have T := Lib.hid (whole47 p v3 (.slice A0 nb cb) (.slice A6 (mout n ep fs).length c6) l b (mout n ep fs) bad (merr fs) w6 w0 _ (K6.at3) (hV3.out w6 K6.tail.tail.tail.tail.tail) (hr0.out w6 K6.tail.tail.tail.tail.tail) K6.ls_rd hb0.out (mout_byt _ _ _))
    rw [hQ.out] at T
    replace K6 := Lib.hid K6.tail
    clear K5 c0_ c1_ c2_
    generalize (mout n ep fs).length = nm at T ⊢
    generalize merr fs = er at T ⊢
    go_wp2_with fail
    refine T.out.mono ?_
    rintro e w7 ⟨rfl, rfl⟩
    clear T
    go_upto_region 7 with (fail)
    have g0_ := K6.out.at3.frozenOf 0
    have g1_ := K6.out.at3.frozenOf 1
    have g2_ := K6.out.at3.frozenOf 2
    have b0_ : w6.cell? ⟨q, 0, none⟩ = some (.int .u64 0) := K6.out.at3.cellOf 0 rfl
    have b1_ : w6.cell? ⟨q, 1, none⟩ = some (.int .u64 0) := K6.out.at3.cellOf 1 rfl
    have b2_ : w6.cell? ⟨q, 2, none⟩ = some (.slice none 0 0) := K6.out.at3.cellOf 2 rfl
    have c0_ : w6.cell? ⟨f, 0, none⟩ = some (.int .u64 n) := K6.out.cellOf 0 rfl
    have c1_ : w6.cell? ⟨f, 1, none⟩ = some (.int .u64 ep) := K6.out.cellOf 1 rfl
    have c2_ : w6.cell? ⟨f, 2, none⟩ = some (.slice AF nF cF) := K6.out.cellOf 2 rfl
    go_wp2_with fail
    have K9 := (((K6.out.at3.setCell (i := 0) (.int .u64 n)).setCell (i := 1) (.int .u64 ep)).setCell (i := 2) (.slice AF nF cF))
    generalize World.setCell _ _ _ = w9 at K9 ⊢
    simp only [List.setIfInBounds_toArray, List.set_cons_zero, List.set_cons_succ] at K9
    have r_0 : w9.cell? ⟨q, 0, none⟩ = some (.int .u64 n) := K9.cellOf 0 rfl
    have r_1 : w9.cell? ⟨q, 1, none⟩ = some (.int .u64 ep) := K9.cellOf 1 rfl
    have r_2 : w9.cell? ⟨q, 2, none⟩ = some (.slice AF nF cF) := K9.cellOf 2 rfl
    refine bodyPost_ret (v := .tuple #[.agg #[.int .u64 n, .int .u64 ep, .slice AF nF cF], .int .i64 0]) ?_ rfl ⟨AF, cF, by rw [hnF], by rw [hnF]; exact K9.tail.tail.at1.tail⟩
    simp [results, Try.results31, go_sem, r_0, r_1, r_2]
  | false =>
    rw [if_neg (by simp)]
    go_enter Try.func31, Try.ntmps31
    go_upto_region 2 with (fail)
    generalize World.alloc _ _ = w1 at K ⊢
    generalize w.heap.size + 1 = p at K ⊢
    generalize w.heap.size = q at K ⊢
    go_wp2_with fail
    refine (number42 p (.slice A0 nb cb) b false 8 (by omega) _ w0 _ K.out (fun w' h => hr0.out w' h.tail) hb0.out).mono ?_
    rintro e y1 ⟨v1, rfl, hrd, K2⟩
    rw [hs1.out] at hrd K2 ⊢
    have hV1 : Hid (∀ w', Hs w0 w' R → RdL U8 w' v1 b1) := fun w' h => hrd w' (hr0.out w' h)
    replace K2 := Lib.hid K2
    clear K hrd
    go_wp2_with fail
    refine (number42 p v1 b1 bad1 8 (by omega) _ w0 _ K2.out (fun w' h => hV1.out w' h.tail) hy1.out).mono ?_
    rintro e y2 ⟨v2, rfl, hrd, K3⟩
    rw [hs2.out] at hrd K3 ⊢
    have hV2 : Hid (∀ w', Hs w0 w' R → RdL U8 w' v2 b2) := fun w' h => hrd w' (hV1.out w' h)
    have Km := Lib.hid ((K3.alloc (.cells #[.int .u64 n, .int .u64 ep, .slice none 0 0] 62)).at1)
    clear K2 hrd K3
    go_upto_region 3 with (fail)
    generalize World.alloc y2 _ = w3 at Km ⊢
    generalize y2.heap.size = f at Km ⊢
    go_wp2_with fail
    refine (things63 p v2 b2 bad2 w3 w0 _ Km.out (fun w' h => hV2.out w' h.tail.tail) hy2.out).mono ?_
    rw [hs3.out]
    rintro e w4 ⟨AF, cF, v3, rfl, hrd, K4⟩
    dsimp only at hrd K4 ⊢
    rw [hnF] at K4 ⊢
    have hV3 : Hid (∀ w', Hs w0 w' R → RdL U8 w' v3 l) := fun w' h => hrd w' (hV2.out w' h)
    replace K4 := Lib.hid K4
    clear hrd Km
    have d2 : w4.cell? ⟨f, 2, none⟩ = some (.slice none 0 0) := K4.out.at2.cellOf 2 rfl
    have e2 := K4.out.at2.frozenOf 2
    have K5 := Lib.hid (K4.out.at2.setCell (i := 2) (.slice AF nF cF))
    simp only [List.setIfInBounds_toArray, List.set_cons_zero, List.set_cons_succ] at K5
    go_upto_region 4 with (fail)
    clear d2 e2 K4
    generalize World.setCell _ _ _ = w5 at K5 ⊢
    have c0_ : w5.cell? ⟨f, 0, none⟩ = some (.int .u64 n) := K5.out.cellOf 0 rfl
    have c1_ : w5.cell? ⟨f, 1, none⟩ = some (.int .u64 ep) := K5.out.cellOf 1 rfl
    have c2_ : w5.cell? ⟨f, 2, none⟩ = some (.slice AF nF cF) := K5.out.cellOf 2 rfl
    go_wp2_with fail
    refine (manifest29 n ep hn6.out he6.out AF nF cF fs w5 w0 _ K5.out (fun w' h => h.at1.ls_rd) hfl.out).mono ?_
    rintro e w6 ⟨A6, c6, rfl, K6⟩
    have T := Lib.hid (whole47 p v3 (.slice A0 nb cb) (.slice A6 (mout n ep fs).length c6) l b (mout n ep fs) bad (merr fs) w6 w0 _ (K6.at3) (hV3.out w6 K6.tail.tail.tail.tail.tail) (hr0.out w6 K6.tail.tail.tail.tail.tail) K6.ls_rd hb0.out (mout_byt _ _ _))
    rw [hQ.out] at T
    replace K6 := Lib.hid K6.tail
    clear K5 c0_ c1_ c2_
    generalize (mout n ep fs).length = nm at T ⊢
    generalize merr fs = er at T ⊢
    go_wp2_with fail
    refine T.out.mono ?_
    rintro e w7 ⟨rfl, rfl⟩
    clear T
    go_upto_region 6 with (fail)
    have g0_ := K6.out.at3.frozenOf 0
    have g1_ := K6.out.at3.frozenOf 1
    have g2_ := K6.out.at3.frozenOf 2
    have b0_ : w6.cell? ⟨q, 0, none⟩ = some (.int .u64 0) := K6.out.at3.cellOf 0 rfl
    have b1_ : w6.cell? ⟨q, 1, none⟩ = some (.int .u64 0) := K6.out.at3.cellOf 1 rfl
    have b2_ : w6.cell? ⟨q, 2, none⟩ = some (.slice none 0 0) := K6.out.at3.cellOf 2 rfl
    go_wp2_with fail
    have K9 := (((K6.out.at3.setCell (i := 0) (.int .u64 0)).setCell (i := 1) (.int .u64 0)).setCell (i := 2) (.slice none 0 0))
    generalize World.setCell _ _ _ = w9 at K9 ⊢
    simp only [List.setIfInBounds_toArray, List.set_cons_zero, List.set_cons_succ] at K9
    have r_0 : w9.cell? ⟨q, 0, none⟩ = some (.int .u64 0) := K9.cellOf 0 rfl
    have r_1 : w9.cell? ⟨q, 1, none⟩ = some (.int .u64 0) := K9.cellOf 1 rfl
    have r_2 : w9.cell? ⟨q, 2, none⟩ = some (.slice none 0 0) := K9.cellOf 2 rfl
    refine bodyPost_ret (v := .tuple #[.agg #[.int .u64 0, .int .u64 0, .slice none 0 0], .int .i64 10]) ?_ rfl ⟨none, 0, rfl, K9.tail.tail.tail.tail.ls_nil _ _⟩
    simp [results, Try.results31, go_sem, r_0, r_1, r_2]
end Go.Proofs.Ytjdkpogkhecijaa

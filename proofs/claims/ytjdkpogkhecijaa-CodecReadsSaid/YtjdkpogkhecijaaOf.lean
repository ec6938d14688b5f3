import Derived.Test.YtjdkpogkhecijaaFb
import Derived.Test.YtjdkpogkhecijaaFd
import Derived.Test.YtjdkpogkhecijaaWh
import Derived.IntWalk
import Derived.Test.YtjdkpogkhecijaaProg
import Derived.Test.YtjdkpogkhecijaaLs
import Derived.Outline
import Derived.StillTailTactics
import Derived.Deep.DeepCutAuto
import Derived.Deep.CutBlock
import Derived.Deep.LoopGhost
import Derived.Deep.QuietTactic
import Derived.BigQuiet
import Derived.Deep.RegionHeld3
import Derived.Deep.RegionLaw
set_option linter.unusedVariables false
set_option linter.unusedSimpArgs false
namespace Go.Proofs.Ytjdkpogkhecijaa
open Go.RowKit
/-! ### OpenFrame -/
def zeroF : Fr := (0, (0, 0, 0), 0, 0, false)
def opF (b : List Int) : Fr × Int := if (rdFr (b, false)).2 = ([], false) then ((rdFr (b, false)).1, 0) else (zeroF, 10)
theorem rdF_u64 {r1 ru r8 : Rst → Int × Rst} {s : Rst} (h : ∀ t, Byt t.1 → U64 (ru t).1) (hb : Byt (r1 s).2.1) : U64 (rdF r1 ru r8 s).1.2.2.2.1 := by
  have z : U64 0 := ⟨Int.le_refl 0, by decide⟩
  exact rdF_ind (M := fun x => U64 x.1.2.2.2.1) (fun _ => z) (fun _ => z) (fun _ => h _ hb) (fun _ _ _ => z)
theorem fr_u64 {s : Rst} (h : Byt s.1) : U64 (rdFr s).1.2.2.2.1 := rdF_u64 (fun t ht => by have := rnum_lt 8 t ht; rw [p8] at this; exact this) ((good_num 1).byt s h)
theorem frb_byt (f : Fr) : Byt (frb f) := by
  unfold frb
  refine Byt.append (put_byt _ _) ?_
  split
  · exact Byt.append (put_byt _ _) (Byt.append (put_byt _ _) (put_byt _ _))
  · split
    · exact put_byt _ _
    · exact Byt.append (put_byt _ _) (put_byt _ _)
theorem fout_byt (f : Fr) : Byt (fout f) := by unfold fout; split; exact frb_byt f; exact Byt.nil
theorem opF_yes {b : List Int} (hb : Byt b) {f : Fr} {l : List Int} {bad : Bool} (h : rdFr (b, false) = (f, (l, bad))) : opF b = if (!bad && (l.isEmpty && (ferr f == 0 && decide (b = fout f)))) = true then (f, 0) else (zeroF, 10) := by
  unfold opF
  rw [h]
  dsimp only
  by_cases hc : (l, bad) = (([], false) : Rst)
  · rw [if_pos hc]
    injection hc with h1 h2
    subst h1
    subst h2
    obtain ⟨a1, a2, _⟩ := good_frame.sound (b, false) hb rfl (by rw [h])
    rw [h] at a1 a2
    dsimp only at a1 a2
    rw [List.append_nil] at a1
    have e1 : ferr f = 0 := if_pos a2
    have e2 : fout f = frb f := if_pos a2
    rw [if_pos (by rw [e1, e2, ← a1]; simp)]
  · rw [if_neg hc, if_neg]
    intro h3
    simp only [Bool.and_eq_true, Bool.not_eq_true', List.isEmpty_iff] at h3
    exact hc (by rw [h3.1, h3.2.1])
theorem opF_ref {b : List Int} {f : Fr} {l : List Int} {bad : Bool} (h : rdFrR (b, false) = (f, (l, bad))) : opF b = if (bad || !l.isEmpty) = true then (zeroF, 10) else (f, 0) := by
  unfold opF
  cases hbd : (rdFr (b, false)).2.2 with
  | true =>
    have := good_frame.bads (b, false) rfl (.inl hbd)
    rw [h] at this
    dsimp only at this
    subst this
    rw [if_neg (by intro h4; rw [h4] at hbd; cases hbd)]
    rfl
  | false =>
    have := good_frame.agree (b, false) rfl hbd trivial
    rw [h] at this
    rw [← this] at hbd ⊢
    dsimp only at hbd ⊢
    subst hbd
    by_cases hl : l = []
    · subst hl; rfl
    · rw [if_neg (by intro h4; injection h4 with h5 _; exact hl h5), if_pos (by cases l with | nil => exact absurd rfl hl | cons x r => rfl)]
set_option maxRecDepth 100000 in
set_option maxHeartbeats 4000000 in
theorem openF23 (v : Value) (b : List Int) (w w0 : World) (R : List HP) (H : Hs w0 w R) (hr : ∀ w', Hs w0 w' R → RdL U8 w' v b) (hb : Byt b) :
    Calls Try.prog 23 #[v] w fun e w' => e = .returned (.tuple #[frv (opF b).1, .int .i64 (opF b).2]) ∧ Hs w0 w' R := by
  obtain ⟨A0, cb, hv⟩ := (hr w H).form
  subst hv
  obtain ⟨nb, hnb⟩ : ∃ n, b.length = n := ⟨_, rfl⟩
  rw [hnb] at hr ⊢
  replace hnb := Lib.hid hnb
  have K := ((H.alloc (.cells #[.int .i64 0, .int .i64 0, .int .i64 0, .int .i64 0, .int .i64 0, .int .u64 0, .bool false] 37)).alloc (.cells #[.slice A0 nb cb, .bool false] 90))
  rw [show (w.alloc (.cells #[.int .i64 0, .int .i64 0, .int .i64 0, .int .i64 0, .int .i64 0, .int .u64 0, .bool false] 37)).heap.size = w.heap.size + 1 from Array.size_push ..] at K
  obtain ⟨⟨⟨k, ⟨r1, r2, r3⟩, m, n, o⟩, l, bad⟩, hx⟩ : ∃ x, rdFr (b, false) = x := ⟨_, rfl⟩
  have hop := opF_yes hb hx
  have hu : U64 n := by have := fr_u64 (s := (b, false)) hb; rw [hx] at this; exact this
  have hr0 := Lib.hid hr
  have hb0 := Lib.hid hb
  replace hx := Lib.hid hx
  clear hr hb H
  replace K := Lib.hid K
  obtain ⟨Q, hQ⟩ : ∃ Q, (!bad && (l.isEmpty && (ferr (k, (r1, r2, r3), m, n, o) == 0 && decide (b = fout (k, (r1, r2, r3), m, n, o))))) = Q := ⟨_, rfl⟩
  rw [hQ] at hop
  rw [hop]
  clear hop
  replace hQ := Lib.hid hQ
  cases Q with
  | true =>
    rw [if_pos rfl]
    go_enter Try.func23, Try.ntmps23
    go_upto_region 2 with (fail)
    generalize World.alloc _ _ = w1 at K ⊢
    generalize w.heap.size + 1 = p at K ⊢
    generalize w.heap.size = q at K ⊢
    go_wp2_with fail
    refine (frame46 p (.slice A0 nb cb) b false _ w0 _ K.out (fun w' h => hr0.out w' h.tail) hb0.out).mono ?_
    rintro e w2 ⟨v2, rfl, hrd, K2⟩
    rw [hx.out] at hrd K2 ⊢
    dsimp only [frv, frc] at hrd K2 ⊢
    have hV : Hid (∀ w', Hs w0 w' R → RdL U8 w' v2 l) := fun w' h => hrd w' (hr0.out w' h)
    have K3 := Lib.hid (K2.alloc (.cells #[.int .i64 k, .int .i64 r1, .int .i64 r2, .int .i64 r3, .int .i64 m, .int .u64 n, .bool o] 37))
    clear K hrd K2
    go_upto_region 3 with (fail)
    generalize World.alloc w2 _ = w3 at K3 ⊢
    generalize w2.heap.size = f at K3 ⊢
    have c0 : w3.cell? ⟨f, 0, none⟩ = some (.int .i64 k) := K3.out.cellOf 0 rfl
    have c1 : w3.cell? ⟨f, 1, none⟩ = some (.int .i64 r1) := K3.out.cellOf 1 rfl
    have c2 : w3.cell? ⟨f, 2, none⟩ = some (.int .i64 r2) := K3.out.cellOf 2 rfl
    have c3 : w3.cell? ⟨f, 3, none⟩ = some (.int .i64 r3) := K3.out.cellOf 3 rfl
    have cc4 : w3.cell? ⟨f, 4, none⟩ = some (.int .i64 m) := K3.out.cellOf 4 rfl
    have c5 : w3.cell? ⟨f, 5, none⟩ = some (.int .u64 n) := K3.out.cellOf 5 rfl
    have c6 : w3.cell? ⟨f, 6, none⟩ = some (.bool o) := K3.out.cellOf 6 rfl
    go_wp2_with fail
    refine (frame19 (k, (r1, r2, r3), m, n, o) hu w3 w0 _ K3.out).mono ?_
    rintro e w4 ⟨A4, c4, rfl, K4⟩
    have T := Lib.hid (whole47 p v2 (.slice A0 nb cb) (.slice A4 (fout (k, (r1, r2, r3), m, n, o)).length c4) l b (fout (k, (r1, r2, r3), m, n, o)) bad (ferr (k, (r1, r2, r3), m, n, o)) w4 w0 _ (K4.at2) (hV.out w4 K4.tail.tail.tail.tail) (hr0.out w4 K4.tail.tail.tail.tail) K4.ls_rd hb0.out (fout_byt _))
    rw [hQ.out] at T
    clear K3 c0 c1 c2 c3 cc4 c5 c6
    replace K4 := Lib.hid K4.tail
    generalize (fout (k, (r1, r2, r3), m, n, o)).length = nf at T ⊢
    generalize ferr (k, (r1, r2, r3), m, n, o) = er at T ⊢
    go_wp2_with fail
    refine T.out.mono ?_
    rintro e w5 ⟨rfl, rfl⟩
    clear T
    go_upto_region 6 with (fail)
    have g0 := K4.out.at2.frozenOf 0
    have g1 := K4.out.at2.frozenOf 1
    have g2 := K4.out.at2.frozenOf 2
    have g3 := K4.out.at2.frozenOf 3
    have g4 := K4.out.at2.frozenOf 4
    have g5 := K4.out.at2.frozenOf 5
    have g6 := K4.out.at2.frozenOf 6
    have b0 : w4.cell? ⟨q, 0, none⟩ = some (.int .i64 0) := K4.out.at2.cellOf 0 rfl
    have b1 : w4.cell? ⟨q, 1, none⟩ = some (.int .i64 0) := K4.out.at2.cellOf 1 rfl
    have b2 : w4.cell? ⟨q, 2, none⟩ = some (.int .i64 0) := K4.out.at2.cellOf 2 rfl
    have b3 : w4.cell? ⟨q, 3, none⟩ = some (.int .i64 0) := K4.out.at2.cellOf 3 rfl
    have b4 : w4.cell? ⟨q, 4, none⟩ = some (.int .i64 0) := K4.out.at2.cellOf 4 rfl
    have b5 : w4.cell? ⟨q, 5, none⟩ = some (.int .u64 0) := K4.out.at2.cellOf 5 rfl
    have b6 : w4.cell? ⟨q, 6, none⟩ = some (.bool false) := K4.out.at2.cellOf 6 rfl
    have c0 : w4.cell? ⟨f, 0, none⟩ = some (.int .i64 k) := K4.out.cellOf 0 rfl
    have c1 : w4.cell? ⟨f, 1, none⟩ = some (.int .i64 r1) := K4.out.cellOf 1 rfl
    have c2 : w4.cell? ⟨f, 2, none⟩ = some (.int .i64 r2) := K4.out.cellOf 2 rfl
    have c3 : w4.cell? ⟨f, 3, none⟩ = some (.int .i64 r3) := K4.out.cellOf 3 rfl
    have c4 : w4.cell? ⟨f, 4, none⟩ = some (.int .i64 m) := K4.out.cellOf 4 rfl
    have c5 : w4.cell? ⟨f, 5, none⟩ = some (.int .u64 n) := K4.out.cellOf 5 rfl
    have c6 : w4.cell? ⟨f, 6, none⟩ = some (.bool o) := K4.out.cellOf 6 rfl
    go_wp2_with fail
    have K9 := (((((((K4.out.at2.setCell (i := 0) (.int .i64 k)).setCell (i := 1) (.int .i64 r1)).setCell (i := 2) (.int .i64 r2)).setCell (i := 3) (.int .i64 r3)).setCell (i := 4) (.int .i64 m)).setCell (i := 5) (.int .u64 n)).setCell (i := 6) (.bool o))
    generalize World.setCell _ _ _ = w9 at K9 ⊢
    simp only [List.setIfInBounds_toArray, List.set_cons_zero, List.set_cons_succ] at K9
    have r_0 : w9.cell? ⟨q, 0, none⟩ = some (.int .i64 k) := K9.cellOf 0 rfl
    have r_1 : w9.cell? ⟨q, 1, none⟩ = some (.int .i64 r1) := K9.cellOf 1 rfl
    have r_2 : w9.cell? ⟨q, 2, none⟩ = some (.int .i64 r2) := K9.cellOf 2 rfl
    have r_3 : w9.cell? ⟨q, 3, none⟩ = some (.int .i64 r3) := K9.cellOf 3 rfl
    have r_4 : w9.cell? ⟨q, 4, none⟩ = some (.int .i64 m) := K9.cellOf 4 rfl
    have r_5 : w9.cell? ⟨q, 5, none⟩ = some (.int .u64 n) := K9.cellOf 5 rfl
    have r_6 : w9.cell? ⟨q, 6, none⟩ = some (.bool o) := K9.cellOf 6 rfl
    refine bodyPost_ret (v := .tuple #[frv (k, (r1, r2, r3), m, n, o), .int .i64 0]) ?_ rfl ⟨rfl, K9.tail.tail.tail⟩
    simp [results, Try.results23, go_sem, r_0, r_1, r_2, r_3, r_4, r_5, r_6, frv, zeroF]
  | false =>
    rw [if_neg (by simp)]
    go_enter Try.func23, Try.ntmps23
    go_upto_region 2 with (fail)
    generalize World.alloc _ _ = w1 at K ⊢
    generalize w.heap.size + 1 = p at K ⊢
    generalize w.heap.size = q at K ⊢
    go_wp2_with fail
    refine (frame46 p (.slice A0 nb cb) b false _ w0 _ K.out (fun w' h => hr0.out w' h.tail) hb0.out).mono ?_
    rintro e w2 ⟨v2, rfl, hrd, K2⟩
    rw [hx.out] at hrd K2 ⊢
    dsimp only [frv, frc] at hrd K2 ⊢
    have hV : Hid (∀ w', Hs w0 w' R → RdL U8 w' v2 l) := fun w' h => hrd w' (hr0.out w' h)
    have K3 := Lib.hid (K2.alloc (.cells #[.int .i64 k, .int .i64 r1, .int .i64 r2, .int .i64 r3, .int .i64 m, .int .u64 n, .bool o] 37))
    clear K hrd K2
    go_upto_region 3 with (fail)
    generalize World.alloc w2 _ = w3 at K3 ⊢
    generalize w2.heap.size = f at K3 ⊢
    have c0 : w3.cell? ⟨f, 0, none⟩ = some (.int .i64 k) := K3.out.cellOf 0 rfl
    have c1 : w3.cell? ⟨f, 1, none⟩ = some (.int .i64 r1) := K3.out.cellOf 1 rfl
    have c2 : w3.cell? ⟨f, 2, none⟩ = some (.int .i64 r2) := K3.out.cellOf 2 rfl
    have c3 : w3.cell? ⟨f, 3, none⟩ = some (.int .i64 r3) := K3.out.cellOf 3 rfl
    have cc4 : w3.cell? ⟨f, 4, none⟩ = some (.int .i64 m) := K3.out.cellOf 4 rfl
    have c5 : w3.cell? ⟨f, 5, none⟩ = some (.int .u64 n) := K3.out.cellOf 5 rfl
    have c6 : w3.cell? ⟨f, 6, none⟩ = some (.bool o) := K3.out.cellOf 6 rfl
    go_wp2_with fail
    refine (frame19 (k, (r1, r2, r3), m, n, o) hu w3 w0 _ K3.out).mono ?_
    rintro e w4 ⟨A4, c4, rfl, K4⟩
    have T := Lib.hid (whole47 p v2 (.slice A0 nb cb) (.slice A4 (fout (k, (r1, r2, r3), m, n, o)).length c4) l b (fout (k, (r1, r2, r3), m, n, o)) bad (ferr (k, (r1, r2, r3), m, n, o)) w4 w0 _ (K4.at2) (hV.out w4 K4.tail.tail.tail.tail) (hr0.out w4 K4.tail.tail.tail.tail) K4.ls_rd hb0.out (fout_byt _))
    rw [hQ.out] at T
    clear K3 c0 c1 c2 c3 cc4 c5 c6
    replace K4 := Lib.hid K4.tail
    generalize (fout (k, (r1, r2, r3), m, n, o)).length = nf at T ⊢
    generalize ferr (k, (r1, r2, r3), m, n, o) = er at T ⊢
    go_wp2_with fail
    refine T.out.mono ?_
    rintro e w5 ⟨rfl, rfl⟩
    clear T
    go_upto_region 5 with (fail)
    have g0 := K4.out.at2.frozenOf 0
    have g1 := K4.out.at2.frozenOf 1
    have g2 := K4.out.at2.frozenOf 2
    have g3 := K4.out.at2.frozenOf 3
    have g4 := K4.out.at2.frozenOf 4
    have g5 := K4.out.at2.frozenOf 5
    have g6 := K4.out.at2.frozenOf 6
    have b0 : w4.cell? ⟨q, 0, none⟩ = some (.int .i64 0) := K4.out.at2.cellOf 0 rfl
    have b1 : w4.cell? ⟨q, 1, none⟩ = some (.int .i64 0) := K4.out.at2.cellOf 1 rfl
    have b2 : w4.cell? ⟨q, 2, none⟩ = some (.int .i64 0) := K4.out.at2.cellOf 2 rfl
    have b3 : w4.cell? ⟨q, 3, none⟩ = some (.int .i64 0) := K4.out.at2.cellOf 3 rfl
    have b4 : w4.cell? ⟨q, 4, none⟩ = some (.int .i64 0) := K4.out.at2.cellOf 4 rfl
    have b5 : w4.cell? ⟨q, 5, none⟩ = some (.int .u64 0) := K4.out.at2.cellOf 5 rfl
    have b6 : w4.cell? ⟨q, 6, none⟩ = some (.bool false) := K4.out.at2.cellOf 6 rfl
    go_wp2_with fail
    have K9 := (((((((K4.out.at2.setCell (i := 0) (.int .i64 0)).setCell (i := 1) (.int .i64 0)).setCell (i := 2) (.int .i64 0)).setCell (i := 3) (.int .i64 0)).setCell (i := 4) (.int .i64 0)).setCell (i := 5) (.int .u64 0)).setCell (i := 6) (.bool false))
    generalize World.setCell _ _ _ = w9 at K9 ⊢
    simp only [List.setIfInBounds_toArray, List.set_cons_zero, List.set_cons_succ] at K9
    have r_0 : w9.cell? ⟨q, 0, none⟩ = some (.int .i64 0) := K9.cellOf 0 rfl
    have r_1 : w9.cell? ⟨q, 1, none⟩ = some (.int .i64 0) := K9.cellOf 1 rfl
    have r_2 : w9.cell? ⟨q, 2, none⟩ = some (.int .i64 0) := K9.cellOf 2 rfl
    have r_3 : w9.cell? ⟨q, 3, none⟩ = some (.int .i64 0) := K9.cellOf 3 rfl
    have r_4 : w9.cell? ⟨q, 4, none⟩ = some (.int .i64 0) := K9.cellOf 4 rfl
    have r_5 : w9.cell? ⟨q, 5, none⟩ = some (.int .u64 0) := K9.cellOf 5 rfl
    have r_6 : w9.cell? ⟨q, 6, none⟩ = some (.bool false) := K9.cellOf 6 rfl
    refine bodyPost_ret (v := .tuple #[frv zeroF, .int .i64 10]) ?_ rfl ⟨rfl, K9.tail.tail.tail⟩
    simp [results, Try.results23, go_sem, r_0, r_1, r_2, r_3, r_4, r_5, r_6, frv, zeroF]
set_option maxRecDepth 100000 in
set_option maxHeartbeats 4000000 in
theorem ropenF35 (v : Value) (b : List Int) (w w0 : World) (R : List HP) (H : Hs w0 w R) (hr : ∀ w', Hs w0 w' R → RdL U8 w' v b) (hb : Byt b) :
    Calls Try.prog 35 #[v] w fun e w' => e = .returned (.tuple #[frv (opF b).1, .int .i64 (opF b).2]) ∧ Hs w0 w' R := by
  obtain ⟨A0, cb, hv⟩ := (hr w H).form
  subst hv
  obtain ⟨nb, hnb⟩ : ∃ n, b.length = n := ⟨_, rfl⟩
  rw [hnb] at hr ⊢
  replace hnb := Lib.hid hnb
  have K := ((H.alloc (.cells #[.int .i64 0, .int .i64 0, .int .i64 0, .int .i64 0, .int .i64 0, .int .u64 0, .bool false] 37)).alloc (.cells #[.slice A0 nb cb, .bool false] 131))
  rw [show (w.alloc (.cells #[.int .i64 0, .int .i64 0, .int .i64 0, .int .i64 0, .int .i64 0, .int .u64 0, .bool false] 37)).heap.size = w.heap.size + 1 from Array.size_push ..] at K
  obtain ⟨⟨⟨k, ⟨r1, r2, r3⟩, m, n, o⟩, l, bad⟩, hx⟩ : ∃ x, rdFrR (b, false) = x := ⟨_, rfl⟩
  have hop := opF_ref hx
  have hle : (!l.isEmpty) = decide ((0 : Int) < (l.length : Int)) := by cases l with
    | nil => rfl
    | cons x r => symm; exact decide_eq_true (by rw [List.length_cons]; omega)
  rw [hle] at hop
  clear hle
  have hle2 : Hid (decide ((0 : Int) < (l.length : Int)) = decide (0 < l.length)) := by show _ = _; rw [decide_eq_decide]; omega
  have hr0 := Lib.hid hr
  have hb0 := Lib.hid hb
  replace hx := Lib.hid hx
  clear hr hb H
  replace K := Lib.hid K
  obtain ⟨Q, hQ⟩ : ∃ Q, (bad || decide ((0 : Int) < (l.length : Int))) = Q := ⟨_, rfl⟩
  rw [hQ] at hop
  rw [hop]
  clear hop
  replace hQ := Lib.hid hQ
  cases Q with
  | true =>
    rw [if_pos rfl]
    go_enter Try.func35, Try.ntmps35
    go_upto_region 2 with (fail)
    generalize World.alloc _ _ = w1 at K ⊢
    generalize w.heap.size + 1 = p at K ⊢
    generalize w.heap.size = q at K ⊢
    go_wp2_with fail
    refine (rframe73 p (.slice A0 nb cb) b false _ w0 _ K.out (fun w' h => hr0.out w' h.tail) hb0.out).mono ?_
    rintro e w2 ⟨v2, rfl, hrd, K2⟩
    rw [hx.out] at hrd K2 ⊢
    dsimp only [frv, frc] at hrd K2 ⊢
    have hV : Hid (∀ w', Hs w0 w' R → RdL U8 w' v2 l) := fun w' h => hrd w' (hr0.out w' h)
    have K3 := Lib.hid (K2.alloc (.cells #[.int .i64 k, .int .i64 r1, .int .i64 r2, .int .i64 r3, .int .i64 m, .int .u64 n, .bool o] 37))
    clear K hrd K2
    go_upto_region 3 with (fail)
    generalize World.alloc w2 _ = w3 at K3 ⊢
    generalize w2.heap.size = f at K3 ⊢
    obtain ⟨A2, c2, hv2⟩ := (hV.out w3 K3.out.tail.tail.tail).form
    subst hv2
    obtain ⟨nl, hnl⟩ : ∃ n, l.length = n := ⟨_, rfl⟩
    rw [hnl] at hV hQ hle2 K3
    replace hnl := Lib.hid hnl
    have x0 : w3.cell? ⟨p, 0, none⟩ = some (.slice A2 nl c2) := K3.out.at1.cellOf 0 rfl
    have x1 : w3.cell? ⟨p, 1, none⟩ = some (.bool bad) := K3.out.at1.cellOf 1 rfl
    cases bad with
    | true =>
      go_upto_region 4 with (fail)
      clear x0 x1
      have g0 := K3.out.at2.frozenOf 0
      have g1 := K3.out.at2.frozenOf 1
      have g2 := K3.out.at2.frozenOf 2
      have g3 := K3.out.at2.frozenOf 3
      have g4 := K3.out.at2.frozenOf 4
      have g5 := K3.out.at2.frozenOf 5
      have g6 := K3.out.at2.frozenOf 6
      have b0 : w3.cell? ⟨q, 0, none⟩ = some (.int .i64 0) := K3.out.at2.cellOf 0 rfl
      have b1 : w3.cell? ⟨q, 1, none⟩ = some (.int .i64 0) := K3.out.at2.cellOf 1 rfl
      have b2 : w3.cell? ⟨q, 2, none⟩ = some (.int .i64 0) := K3.out.at2.cellOf 2 rfl
      have b3 : w3.cell? ⟨q, 3, none⟩ = some (.int .i64 0) := K3.out.at2.cellOf 3 rfl
      have b4 : w3.cell? ⟨q, 4, none⟩ = some (.int .i64 0) := K3.out.at2.cellOf 4 rfl
      have b5 : w3.cell? ⟨q, 5, none⟩ = some (.int .u64 0) := K3.out.at2.cellOf 5 rfl
      have b6 : w3.cell? ⟨q, 6, none⟩ = some (.bool false) := K3.out.at2.cellOf 6 rfl
      go_wp2_with fail
      have K9 := (((((((K3.out.at2.setCell (i := 0) (.int .i64 0)).setCell (i := 1) (.int .i64 0)).setCell (i := 2) (.int .i64 0)).setCell (i := 3) (.int .i64 0)).setCell (i := 4) (.int .i64 0)).setCell (i := 5) (.int .u64 0)).setCell (i := 6) (.bool false))
      generalize World.setCell _ _ _ = w9 at K9 ⊢
      simp only [List.setIfInBounds_toArray, List.set_cons_zero, List.set_cons_succ] at K9
      have r_0 : w9.cell? ⟨q, 0, none⟩ = some (.int .i64 0) := K9.cellOf 0 rfl
      have r_1 : w9.cell? ⟨q, 1, none⟩ = some (.int .i64 0) := K9.cellOf 1 rfl
      have r_2 : w9.cell? ⟨q, 2, none⟩ = some (.int .i64 0) := K9.cellOf 2 rfl
      have r_3 : w9.cell? ⟨q, 3, none⟩ = some (.int .i64 0) := K9.cellOf 3 rfl
      have r_4 : w9.cell? ⟨q, 4, none⟩ = some (.int .i64 0) := K9.cellOf 4 rfl
      have r_5 : w9.cell? ⟨q, 5, none⟩ = some (.int .u64 0) := K9.cellOf 5 rfl
      have r_6 : w9.cell? ⟨q, 6, none⟩ = some (.bool false) := K9.cellOf 6 rfl
      refine bodyPost_ret (v := .tuple #[frv zeroF, .int .i64 10]) ?_ rfl ⟨rfl, K9.tail.tail.tail⟩
      simp [results, Try.results35, go_sem, r_0, r_1, r_2, r_3, r_4, r_5, r_6, frv, zeroF]
    | false =>
      have hd : decide ((0 : Int) < (nl : Int)) = true := hQ.out
      have hd2 : decide (0 < nl) = true := by rw [← hle2.out]; exact hd
      go_upto_region 4 with (fail)
      clear x0 x1 hd hd2
      have g0 := K3.out.at2.frozenOf 0
      have g1 := K3.out.at2.frozenOf 1
      have g2 := K3.out.at2.frozenOf 2
      have g3 := K3.out.at2.frozenOf 3
      have g4 := K3.out.at2.frozenOf 4
      have g5 := K3.out.at2.frozenOf 5
      have g6 := K3.out.at2.frozenOf 6
      have b0 : w3.cell? ⟨q, 0, none⟩ = some (.int .i64 0) := K3.out.at2.cellOf 0 rfl
      have b1 : w3.cell? ⟨q, 1, none⟩ = some (.int .i64 0) := K3.out.at2.cellOf 1 rfl
      have b2 : w3.cell? ⟨q, 2, none⟩ = some (.int .i64 0) := K3.out.at2.cellOf 2 rfl
      have b3 : w3.cell? ⟨q, 3, none⟩ = some (.int .i64 0) := K3.out.at2.cellOf 3 rfl
      have b4 : w3.cell? ⟨q, 4, none⟩ = some (.int .i64 0) := K3.out.at2.cellOf 4 rfl
      have b5 : w3.cell? ⟨q, 5, none⟩ = some (.int .u64 0) := K3.out.at2.cellOf 5 rfl
      have b6 : w3.cell? ⟨q, 6, none⟩ = some (.bool false) := K3.out.at2.cellOf 6 rfl
      go_wp2_with fail
      have K9 := (((((((K3.out.at2.setCell (i := 0) (.int .i64 0)).setCell (i := 1) (.int .i64 0)).setCell (i := 2) (.int .i64 0)).setCell (i := 3) (.int .i64 0)).setCell (i := 4) (.int .i64 0)).setCell (i := 5) (.int .u64 0)).setCell (i := 6) (.bool false))
      generalize World.setCell _ _ _ = w9 at K9 ⊢
      simp only [List.setIfInBounds_toArray, List.set_cons_zero, List.set_cons_succ] at K9
      have r_0 : w9.cell? ⟨q, 0, none⟩ = some (.int .i64 0) := K9.cellOf 0 rfl
      have r_1 : w9.cell? ⟨q, 1, none⟩ = some (.int .i64 0) := K9.cellOf 1 rfl
      have r_2 : w9.cell? ⟨q, 2, none⟩ = some (.int .i64 0) := K9.cellOf 2 rfl
      have r_3 : w9.cell? ⟨q, 3, none⟩ = some (.int .i64 0) := K9.cellOf 3 rfl
      have r_4 : w9.cell? ⟨q, 4, none⟩ = some (.int .i64 0) := K9.cellOf 4 rfl
      have r_5 : w9.cell? ⟨q, 5, none⟩ = some (.int .u64 0) := K9.cellOf 5 rfl
      have r_6 : w9.cell? ⟨q, 6, none⟩ = some (.bool false) := K9.cellOf 6 rfl
      refine bodyPost_ret (v := .tuple #[frv zeroF, .int .i64 10]) ?_ rfl ⟨rfl, K9.tail.tail.tail⟩
      simp [results, Try.results35, go_sem, r_0, r_1, r_2, r_3, r_4, r_5, r_6, frv, zeroF]
  | false =>
    rw [if_neg (by simp)]
    go_enter Try.func35, Try.ntmps35
    go_upto_region 2 with (fail)
    generalize World.alloc _ _ = w1 at K ⊢
    generalize w.heap.size + 1 = p at K ⊢
    generalize w.heap.size = q at K ⊢
    go_wp2_with fail
    refine (rframe73 p (.slice A0 nb cb) b false _ w0 _ K.out (fun w' h => hr0.out w' h.tail) hb0.out).mono ?_
    rintro e w2 ⟨v2, rfl, hrd, K2⟩
    rw [hx.out] at hrd K2 ⊢
    dsimp only [frv, frc] at hrd K2 ⊢
    have hV : Hid (∀ w', Hs w0 w' R → RdL U8 w' v2 l) := fun w' h => hrd w' (hr0.out w' h)
    have K3 := Lib.hid (K2.alloc (.cells #[.int .i64 k, .int .i64 r1, .int .i64 r2, .int .i64 r3, .int .i64 m, .int .u64 n, .bool o] 37))
    clear K hrd K2
    go_upto_region 3 with (fail)
    generalize World.alloc w2 _ = w3 at K3 ⊢
    generalize w2.heap.size = f at K3 ⊢
    obtain ⟨A2, c2, hv2⟩ := (hV.out w3 K3.out.tail.tail.tail).form
    subst hv2
    obtain ⟨nl, hnl⟩ : ∃ n, l.length = n := ⟨_, rfl⟩
    rw [hnl] at hV hQ hle2 K3
    replace hnl := Lib.hid hnl
    have x0 : w3.cell? ⟨p, 0, none⟩ = some (.slice A2 nl c2) := K3.out.at1.cellOf 0 rfl
    have x1 : w3.cell? ⟨p, 1, none⟩ = some (.bool bad) := K3.out.at1.cellOf 1 rfl
    cases bad with
    | true => exact absurd hQ.out (by simp)
    | false =>
      have hd : decide ((0 : Int) < (nl : Int)) = false := hQ.out
      have hd2 : decide (0 < nl) = false := by rw [← hle2.out]; exact hd
      go_upto_region 5 with (fail)
      clear x0 x1 hd hd2
      have g0 := K3.out.at2.frozenOf 0
      have g1 := K3.out.at2.frozenOf 1
      have g2 := K3.out.at2.frozenOf 2
      have g3 := K3.out.at2.frozenOf 3
      have g4 := K3.out.at2.frozenOf 4
      have g5 := K3.out.at2.frozenOf 5
      have g6 := K3.out.at2.frozenOf 6
      have b0 : w3.cell? ⟨q, 0, none⟩ = some (.int .i64 0) := K3.out.at2.cellOf 0 rfl
      have b1 : w3.cell? ⟨q, 1, none⟩ = some (.int .i64 0) := K3.out.at2.cellOf 1 rfl
      have b2 : w3.cell? ⟨q, 2, none⟩ = some (.int .i64 0) := K3.out.at2.cellOf 2 rfl
      have b3 : w3.cell? ⟨q, 3, none⟩ = some (.int .i64 0) := K3.out.at2.cellOf 3 rfl
      have b4 : w3.cell? ⟨q, 4, none⟩ = some (.int .i64 0) := K3.out.at2.cellOf 4 rfl
      have b5 : w3.cell? ⟨q, 5, none⟩ = some (.int .u64 0) := K3.out.at2.cellOf 5 rfl
      have b6 : w3.cell? ⟨q, 6, none⟩ = some (.bool false) := K3.out.at2.cellOf 6 rfl
      have c0 : w3.cell? ⟨f, 0, none⟩ = some (.int .i64 k) := K3.out.cellOf 0 rfl
      have c1 : w3.cell? ⟨f, 1, none⟩ = some (.int .i64 r1) := K3.out.cellOf 1 rfl
      have c2 : w3.cell? ⟨f, 2, none⟩ = some (.int .i64 r2) := K3.out.cellOf 2 rfl
      have c3 : w3.cell? ⟨f, 3, none⟩ = some (.int .i64 r3) := K3.out.cellOf 3 rfl
      have c4 : w3.cell? ⟨f, 4, none⟩ = some (.int .i64 m) := K3.out.cellOf 4 rfl
      have c5 : w3.cell? ⟨f, 5, none⟩ = some (.int .u64 n) := K3.out.cellOf 5 rfl
      have c6 : w3.cell? ⟨f, 6, none⟩ = some (.bool o) := K3.out.cellOf 6 rfl
      go_wp2_with fail
      have K9 := (((((((K3.out.at2.setCell (i := 0) (.int .i64 k)).setCell (i := 1) (.int .i64 r1)).setCell (i := 2) (.int .i64 r2)).setCell (i := 3) (.int .i64 r3)).setCell (i := 4) (.int .i64 m)).setCell (i := 5) (.int .u64 n)).setCell (i := 6) (.bool o))
      generalize World.setCell _ _ _ = w9 at K9 ⊢
      simp only [List.setIfInBounds_toArray, List.set_cons_zero, List.set_cons_succ] at K9
      have r_0 : w9.cell? ⟨q, 0, none⟩ = some (.int .i64 k) := K9.cellOf 0 rfl
      have r_1 : w9.cell? ⟨q, 1, none⟩ = some (.int .i64 r1) := K9.cellOf 1 rfl
      have r_2 : w9.cell? ⟨q, 2, none⟩ = some (.int .i64 r2) := K9.cellOf 2 rfl
      have r_3 : w9.cell? ⟨q, 3, none⟩ = some (.int .i64 r3) := K9.cellOf 3 rfl
      have r_4 : w9.cell? ⟨q, 4, none⟩ = some (.int .i64 m) := K9.cellOf 4 rfl
      have r_5 : w9.cell? ⟨q, 5, none⟩ = some (.int .u64 n) := K9.cellOf 5 rfl
      have r_6 : w9.cell? ⟨q, 6, none⟩ = some (.bool o) := K9.cellOf 6 rfl
      refine bodyPost_ret (v := .tuple #[frv (k, (r1, r2, r3), m, n, o), .int .i64 0]) ?_ rfl ⟨rfl, K9.tail.tail.tail⟩
      simp [results, Try.results35, go_sem, r_0, r_1, r_2, r_3, r_4, r_5, r_6, frv, zeroF]
end Go.Proofs.Ytjdkpogkhecijaa

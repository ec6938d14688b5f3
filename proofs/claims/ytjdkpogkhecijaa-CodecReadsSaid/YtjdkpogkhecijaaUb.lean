import Derived.Test.YtjdkpogkhecijaaMx
import Derived.Test.YtjdkpogkhecijaaFc
import Derived.Test.YtjdkpogkhecijaaWh
import Derived.IntWalk
import Derived.Test.YtjdkpogkhecijaaProg
import Derived.Test.YtjdkpogkhecijaaLs
import Derived.Outline
import Derived.StillTailTactics
import Derived.Deep.DeepCutAuto
import Derived.Deep.CutBlock
import Derived.Deep.LoopGhost
import Derived.Deep.QuietTactic
import Derived.BigQuiet
import Derived.Deep.RegionHeld3
import Derived.Deep.RegionLaw
set_option linter.unusedVariables false
set_option linter.unusedSimpArgs false
namespace Go.Proofs.Ytjdkpogkhecijaa
open Go.RowKit
/-! ### a name is read -/
def rdFile (s : Rst) : ByteArray × Rst := (strOfNums (rtk (rnum 1 s).1.toNat (rnum 1 s).2).1, (rtk (rnum 1 s).1.toNat (rnum 1 s).2).2)
def rdFileR (s : Rst) : ByteArray × Rst :=
  if (rnumR 1 s).2.2 = false ∧ (rnumR 1 s).1.toNat ≤ (rnumR 1 s).2.1.length ∧ (rnumR 1 s).1.toNat ≤ 32 then (strOfNums ((rnumR 1 s).2.1.take (rnumR 1 s).1.toNat), ((rnumR 1 s).2.1.drop (rnumR 1 s).1.toNat, false)) else (ByteArray.empty, ((rnumR 1 s).2.1, true))
theorem rtk_stays (k : Nat) (s : Rst) (h : s.2 = true) : (rtk k s).2.2 = true := by unfold rtk; split; exact h; rfl
theorem rtk_ok {k : Nat} {s : Rst} (h : k ≤ s.1.length) : rtk k s = (s.1.take k, (s.1.drop k, s.2)) := by unfold rtk; rw [if_pos h]
theorem rtk_no {k : Nat} {s : Rst} (h : ¬ k ≤ s.1.length) : rtk k s = ([], (s.1, true)) := by unfold rtk; rw [if_neg h]
theorem good_file : Good rdFile rdFileR fileB (fun s => s.size < 256) (fun s => s.size ≤ 32) where
  stays s h := rtk_stays _ _ ((good_num 1).stays s h)
  staysR s h := by
    have := (good_num 1).staysR s h
    unfold rdFileR
    rw [if_neg (by rw [this]; simp)]
  agree s h h2 h3 := by
    have e : (rnum 1 s).2.2 = false := by
      cases e : (rnum 1 s).2.2 with
      | false => rfl
      | true => have := rtk_stays (rnum 1 s).1.toNat _ e; unfold rdFile at h2; rw [this] at h2; cases h2
    have a := (good_num 1).agree s h e trivial
    unfold rdFile at h2 h3 ⊢
    unfold rdFileR
    rw [a]
    obtain ⟨⟨x, l, b⟩, hx⟩ : ∃ y, rnum 1 s = y := ⟨_, rfl⟩
    rw [hx] at e h2 h3 ⊢
    obtain rfl : b = false := e
    dsimp only at h2 h3 ⊢
    by_cases hk : x.toNat ≤ l.length
    · rw [rtk_ok hk] at h2 h3 ⊢
      dsimp only at h3 ⊢
      rw [strOfNums_size, List.length_take, Nat.min_eq_left hk] at h3
      rw [if_pos ⟨rfl, hk, h3⟩]
    · rw [rtk_no hk] at h2; cases h2
  bads s h h2 := by
    cases e : (rnum 1 s).2.2 with
    | true =>
      have := (good_num 1).bads s h (.inl e)
      unfold rdFileR
      rw [if_neg (by rw [this]; simp)]
    | false =>
      have a := (good_num 1).agree s h e trivial
      unfold rdFile at h2
      unfold rdFileR
      rw [a]
      obtain ⟨⟨x, l, b⟩, hx⟩ : ∃ y, rnum 1 s = y := ⟨_, rfl⟩
      rw [hx] at e h2 ⊢
      obtain rfl : b = false := e
      dsimp only at h2 ⊢
      by_cases hk : x.toNat ≤ l.length
      · rw [rtk_ok hk] at h2
        dsimp only at h2
        rw [strOfNums_size, List.length_take, Nat.min_eq_left hk] at h2
        rcases h2 with h2 | h2
        · cases h2
        · rw [if_neg (fun h => h2 h.2.2)]
      · rw [if_neg (fun h => hk h.2.1)]
  byt s h := (rtk_byt ((good_num 1).byt s h)).2
  bytR s h := by
    have b := (good_num 1).bytR s h
    unfold rdFileR
    split
    · exact b.drop _
    · exact b
  sound s hb h h2 := by
    have e : (rnum 1 s).2.2 = false := by
      cases e : (rnum 1 s).2.2 with
      | false => rfl
      | true => have := rtk_stays (rnum 1 s).1.toNat _ e; unfold rdFile at h2; rw [this] at h2; cases h2
    obtain ⟨a1, a2⟩ := (good_num 1).sound s hb h e
    have b1 := (good_num 1).byt s hb
    rw [p1] at a2
    unfold rdFile at h2 ⊢
    obtain ⟨⟨x, l, b⟩, hx⟩ : ∃ y, rnum 1 s = y := ⟨_, rfl⟩
    rw [hx] at h2 a1 a2 b1 ⊢
    dsimp only at h2 a1 a2 b1 ⊢
    by_cases hk : x.toNat ≤ l.length
    · rw [rtk_ok hk]
      dsimp only
      have hs : (strOfNums (l.take x.toNat)).size = x.toNat := by rw [strOfNums_size, List.length_take, Nat.min_eq_left hk]
      refine ⟨?_, by rw [hs]; omega⟩
      unfold fileB
      rw [hs, bytesOf_str _ (b1.take _), Int.toNat_of_nonneg a2.1, List.append_assoc, List.take_append_drop]
      exact a1
    · rw [rtk_no hk] at h2; cases h2
  full x t h := by
    unfold rdFile fileB
    rw [List.append_assoc, (good_num 1).full _ _ (by rw [p1]; omega)]
    dsimp only
    rw [Int.toNat_natCast, rtk_ok (by rw [List.length_append, bytesOf_len]; omega)]
    dsimp only
    rw [List.take_left' (bytesOf_len x), List.drop_left' (bytesOf_len x), str_bytesOf]
  encb x _ := fileB_byt x
/-- A list is told, the reader has s left. -/
def TPost {α : Type} (E : Enc α) (t : Nat) (v : Value) (bs : List Int) (p : Nat) (w0 : World) (R : List HP) (xs : List α) (s : Rst) (e : Ending) (w' : World) : Prop :=
  ∃ A c v2, e = .returned (.slice A xs.length c) ∧ (∀ W, RdL U8 W v bs → RdL U8 W v2 s.1) ∧ Hs w0 w' (Ls E t (.slice A xs.length c) xs :: Blk p (.cells #[v2, .bool s.2] 90) :: R)
set_option maxRecDepth 100000 in
set_option maxHeartbeats 800000 in
theorem file64 (p : Nat) (v0 : Value) (bs0 : List Int) (bad0 : Bool) (w w0 : World) (R : List HP) (H : Hs w0 w (Blk p (.cells #[v0, .bool bad0] 90) :: R)) (hr : ∀ w', Hs w0 w' R → RdL U8 w' v0 bs0) (hb : Byt bs0) :
    Calls Try.prog 64 #[.pointer (some ⟨p, 0, none⟩)] w (RdPost v0 bs0 p 90 w0 R (.string (rdFile (bs0, bad0)).1) (rdFile (bs0, bad0)).2) := by
  have hr0 := Lib.hid hr
  have hb0 := Lib.hid hb
  have b1 := (good_num 1).byt (bs0, bad0) hb
  have hk := rnum_lt 1 (bs0, bad0) hb
  obtain ⟨⟨x, bs1, bad1⟩, hs1⟩ : ∃ x, rnum 1 (bs0, bad0) = x := ⟨_, rfl⟩
  rw [hs1] at b1 hk
  obtain ⟨hk0, hk1⟩ := hk
  rw [p1] at hk1
  dsimp only at b1 hk0 hk1
  obtain ⟨k, rfl⟩ := Int.eq_ofNat_of_zero_le hk0
  obtain ⟨⟨ys, bs2, bad2⟩, hs2⟩ : ∃ x, rtk k (bs1, bad1) = x := ⟨_, rfl⟩
  have hfin : rdFile (bs0, bad0) = (strOfNums ys, (bs2, bad2)) := by unfold rdFile; rw [hs1]; dsimp only; rw [Int.toNat_natCast, hs2]
  rw [hfin]
  have K := Lib.hid H
  replace hs1 := Lib.hid hs1
  replace hs2 := Lib.hid hs2
  have hb1 := Lib.hid b1
  clear H hr hb hfin b1
  go_enter Try.func64, Try.ntmps64
  go_wp2_with fail
  refine (number42 p v0 bs0 bad0 1 (by omega) w w0 R K.out hr0.out hb0.out).mono ?_
  rintro e w1 ⟨v1, rfl, hrd, K1⟩
  rw [hs1.out] at hrd K1 ⊢
  have hV := Lib.hid hrd
  replace K1 := Lib.hid K1
  clear hrd K
  go_wp2_with fail
  refine (take65 p v1 bs1 bad1 k w1 w0 R K1.out (hV.out w1 (hr0.out w1 K1.out.tail))).mono ?_
  rintro e w2 ⟨v2, v3, rfl, hrd, K2⟩
  rw [hs2.out] at hrd K2
  have hV2 : Hid (∀ W, RdL U8 W v0 bs0 → RdL U8 W v3 bs2) := fun W h => (hrd W (hV.out W h)).2
  have cv := conv_bytes ((hrd w2 (hV.out w2 (hr0.out w2 K2.tail))).1)
  replace K2 := Lib.hid K2
  clear hrd K1
  go_wp2_with fail
  go_ret
  exact ⟨v3, rfl, hV2.out, K2.out⟩
theorem infoTh63 : (Try.prog.info? 9).map (fun i => (i.zero, i.size, i.bytes)) = some (some (.string ByteArray.empty), 1, 16) := by kernel_rfl
set_option maxRecDepth 100000 in
set_option maxHeartbeats 1600000 in
theorem things63 (p : Nat) (v0 : Value) (bs0 : List Int) (bad0 : Bool) (w w0 : World) (R : List HP) (H : Hs w0 w (Blk p (.cells #[v0, .bool bad0] 90) :: R)) (hr : ∀ w', Hs w0 w' R → RdL U8 w' v0 bs0) (hb : Byt bs0) :
    Calls Try.prog 63 #[.pointer (some ⟨p, 0, none⟩), .func (.func 64) #[] #[]] w (TPost (Enc.str) 9 v0 bs0 p w0 R (rdList rdFile (bs0, bad0)).1 (rdList rdFile (bs0, bad0)).2) := by
  have hr0 := Lib.hid hr
  have hb0 := Lib.hid hb
  have b1 := (good_num 2).byt (bs0, bad0) hb
  have hk := rnum_lt 2 (bs0, bad0) hb
  have hX0 : rdList rdFile (bs0, bad0) = thg rdFile (rnum 2 (bs0, bad0)).1.toNat (rnum 2 (bs0, bad0)).2 [] := rfl
  obtain ⟨⟨x, bs1, bad1⟩, hs1⟩ : ∃ x, rnum 2 (bs0, bad0) = x := ⟨_, rfl⟩
  rw [hs1] at b1 hk hX0
  obtain ⟨hk0, hk1⟩ := hk
  rw [show (256 : Int) ^ 2 = 65536 from rfl] at hk1
  dsimp only at b1 hk0 hk1 hX0
  obtain ⟨N, rfl⟩ := Int.eq_ofNat_of_zero_le hk0
  rw [Int.toNat_natCast] at hX0
  obtain ⟨X, hX⟩ : ∃ X, rdList rdFile (bs0, bad0) = X := ⟨_, rfl⟩
  rw [hX] at hX0 ⊢
  have hX1 : Hid (thg rdFile N (bs1, bad1) [] = X) := hX0.symm
  have K := Lib.hid H
  replace hs1 := Lib.hid hs1
  have hb1 := Lib.hid b1
  clear H hr hb b1 hX hX0
  go_enter Try.func63, Try.ntmps63
  go_wp2_with fail
  refine (number42 p v0 bs0 bad0 2 (by omega) w w0 R K.out hr0.out hb0.out).mono ?_
  rintro e w1 ⟨v1, rfl, hrd, K1⟩
  rw [hs1.out] at hrd K1 ⊢
  have hV := Lib.hid hrd
  have K2 := Lib.hid (K1.ls_nil (Enc.str) 9)
  clear hrd K K1
  go_wp2_with fail
  go_loopg [5, 9] N (fun g lv iv wr => ∃ (i : Nat) (A : Option Addr) (m c : Nat) (out : List (ByteArray)) (vi : Value) (bi : List Int) (di : Bool), g + i = N ∧ iv = .int .u64 i ∧ lv = .slice A m c ∧ m ≤ i ∧ Hid (out.length = m) ∧ Hid (thg rdFile (N - i) (bi, di) out = X) ∧ Hid (Byt bi) ∧ Hid (∀ W, RdL U8 W v0 bs0 → RdL U8 W vi bi) ∧
    Hid (Hs w0 wr (Ls (Enc.str) 9 (.slice A m c) out :: Blk p (.cells #[vi, .bool di] 90) :: R)))
  case atStart => exact ⟨0, none, 0, 0, [], v1, bs1, bad1, rfl, rfl, rfl, Nat.le_refl _, Lib.hid rfl, hX1, hb1, hV, K2⟩
  case round =>
    clear K2 hX1 hb1 hV
    obtain ⟨i, A, m, c, out, vi, bi, di, hg, rfl, rfl, hmi, hm, hXi, hbi, hVi, K⟩ := hrel
    have hiN : i ≤ N := by omega
    replace hg := Lib.hid hg
    rcases Nat.lt_or_ge i N with hlt | hlt
    · have hi1 : (i : Int) < (N : Int) := by omega
      have hwi : IntKind.u64.wrap ((i : Int) + 1) = ((i + 1 : Nat) : Int) := by rw [IntKind.wrap_u64]; omega
      have b2 := good_file.byt (bi, di) hbi.out
      have hstep : thg rdFile (N - i) (bi, di) out = if (rdFile (bi, di)).2.2 = true then ([], (rdFile (bi, di)).2) else thg rdFile (N - (i + 1)) (rdFile (bi, di)).2 (out ++ [(rdFile (bi, di)).1]) := by
        rw [show N - i = (N - (i + 1)) + 1 by omega]
        rfl
      rw [hXi.out] at hstep
      obtain ⟨⟨y, bj, dj⟩, hy⟩ : ∃ x, rdFile (bi, di) = x := ⟨_, rfl⟩
      rw [hy] at b2 hstep
      dsimp only at b2 hstep
      replace hy := Lib.hid hy
      have hst0 := Lib.hid hstep
      clear hstep
      have hbj := Lib.hid b2
      clear b2
      go_wp2_with fail
      refine (file64 p vi bi di wr w0 _ K.out.at1 (fun w' h => hVi.out w' (hr0.out w' h.tail)) hbi.out).mono ?_
      rw [hy.out]
      rintro e w5 ⟨vj, rfl, hrd, K5⟩
      have hVj : Hid (∀ W, RdL U8 W v0 bs0 → RdL U8 W vj bj) := fun W h => hrd W (hVi.out W h)
      have d1 : w5.cell? ⟨p, 1, none⟩ = some (.bool dj) := K5.cellOf 1 rfl
      replace K5 := Lib.hid K5
      clear hrd K
      cases dj with
      | true =>
        have hstep := hst0.out
        rw [if_pos rfl] at hstep
        subst hstep
        go_wp2_with fail
        go_ret
        exact ⟨none, 0, vj, rfl, hVj.out, K5.out.at1.tail.ls_nil _ _⟩
      | false =>
        have hstep := hst0.out
        rw [if_neg (by simp)] at hstep
        have hXj : Hid (thg rdFile (N - (i + 1)) (bj, false) (out ++ [y]) = X) := hstep.symm
        clear hstep hst0
        go_wp2_with (at_builtin; refine wpList_append1N (E := Enc.str) m hm.out rfl (.tmp 18) (.tmp 20) 60 rfl 9 _ 1 16 Try.underlying60 infoTh63 rfl (by decide) (by decide) rfl rfl rfl (by simp) K5.out.at1 y (by omega) ?_)
        intro A6 c6 w6 K6
        replace K6 := Lib.hid K6
        clear K5 d1
        go_wp2_with fail
        go_roundg (N - (i + 1))
        case measure => have := hg.out; omega
        case rel => exact ⟨i + 1, A6, m + 1, c6, out ++ [y], vj, bj, false, by have := hg.out; omega, by first | rfl | go_num | rw [hwi], rfl, by omega, by show _ = _; rw [List.length_append, hm.out]; rfl, hXj, hbj, hVj, K6⟩
    · have hi1 : decide ((i : Int) < (N : Int)) = false := by rw [decide_eq_false_iff_not]; omega
      have hi2 : decide (i < N) = false := by rw [decide_eq_false_iff_not]; omega
      have hfin : (out, ((bi, di) : Rst)) = X := by
        have := hXi.out
        rw [show N - i = 0 by omega] at this
        exact this
      subst hfin
      clear hlt
      go_wp2_with fail
      go_ret
      dsimp only
      exact ⟨A, c, vi, by rw [hm.out]; rfl, hVi.out, by rw [hm.out]; exact K.out⟩
/-! ### OpenManifest -/
abbrev Mn := Int × Int × List ByteArray
def rdMn : Rst → Mn × Rst := rdPair (rnum 8) (rdPair (rnum 8) (rdList rdFile))
def rdMnR : Rst → Mn × Rst := rdPair (rnumR 8) (rdPair (rnumR 8) (rdListR rdFileR))
theorem good_mn : Good rdMn rdMnR (fun x => put 8 x.1 ++ (put 8 x.2.1 ++ (put 2 (x.2.2.length : Int) ++ x.2.2.flatMap fileB))) (fun x => (0 ≤ x.1 ∧ x.1 < 256 ^ 8) ∧ (0 ≤ x.2.1 ∧ x.2.1 < 256 ^ 8) ∧ x.2.2.length < 65536 ∧ ∀ s ∈ x.2.2, s.size < 256) (fun x => True ∧ True ∧ ∀ s ∈ x.2.2, s.size ≤ 32) := (good_num 8).pair ((good_num 8).pair good_file.list)
def zeroM : Mn := (0, 0, [])
def opM (b : List Int) : Mn × Int := if (rdMn (b, false)).2 = ([], false) ∧ mbad (rdMn (b, false)).1.2.2 = false then ((rdMn (b, false)).1, 0) else (zeroM, 10)
theorem thg_len {α : Type} (rd : Rst → α × Rst) : ∀ (n : Nat) (s : Rst) (out : List α), (thg rd n s out).1.length ≤ out.length + n := by
  intro n
  induction n with
  | zero => intro s out; exact Nat.le_refl _
  | succ n ih =>
    intro s out
    unfold thg
    split
    · exact Nat.zero_le _
    · have := ih (rd s).2 (out ++ [(rd s).1])
      rw [List.length_append] at this
      simp at this
      omega
theorem rdList_len {α : Type} (rd : Rst → α × Rst) (s : Rst) (h : Byt s.1) : (rdList rd s).1.length ≤ 65535 := by
  have h1 := rnum_lt 2 s h
  rw [show (256 : Int) ^ 2 = 65536 from rfl] at h1
  have := thg_len rd (rnum 2 s).1.toNat (rnum 2 s).2 []
  unfold rdList
  simp at this
  omega
theorem mbad_no {l : List ByteArray} : mbad l = false ↔ l.length ≤ 65535 ∧ ∀ s ∈ l, s.size ≤ 32 := by
  unfold mbad
  rw [Bool.or_eq_false_iff, decide_eq_false_iff_not, List.any_eq_false]
  refine ⟨fun h => ⟨by omega, fun s hs => ?_⟩, fun h => ⟨by omega, fun s hs => ?_⟩⟩
  · have := h.2 s hs
    unfold longN at this
    simpa using this
  · have := h.2 s hs
    unfold longN
    simpa using this
theorem opM_yes {b : List Int} (hb : Byt b) {n ep : Int} {fs : List ByteArray} {l : List Int} {bad : Bool} (h : rdMn (b, false) = ((n, ep, fs), (l, bad))) : opM b = if (!bad && (l.isEmpty && (merr fs == 0 && decide (b = mout n ep fs)))) = true then ((n, ep, fs), 0) else (zeroM, 10) := by
  unfold opM
  rw [h]
  dsimp only
  by_cases hc : (l, bad) = (([], false) : Rst) ∧ mbad fs = false
  · rw [if_pos hc]
    obtain ⟨hc, a2⟩ := hc
    injection hc with h1 h2
    subst h1
    subst h2
    obtain ⟨a1, _⟩ := good_mn.sound (b, false) hb rfl (by rw [h])
    rw [h] at a1
    dsimp only at a1
    rw [List.append_nil] at a1
    have e1 : merr fs = 0 := if_neg (by rw [a2]; simp)
    have e2 : mout n ep fs = manB n ep fs := if_neg (by rw [a2]; simp)
    rw [if_pos (by rw [e1, e2]; unfold manB; rw [← a1]; simp)]
  · rw [if_neg hc, if_neg]
    intro h3
    simp only [Bool.and_eq_true, Bool.not_eq_true', List.isEmpty_iff, beq_iff_eq] at h3
    refine hc ⟨by rw [h3.1, h3.2.1], ?_⟩
    have h4 := h3.2.2.1
    unfold merr at h4
    cases h5 : mbad fs with
    | false => rfl
    | true => rw [h5, if_pos rfl] at h4; cases h4
theorem opM_ref {b : List Int} (hb : Byt b) {x : Mn} {l : List Int} {bad : Bool} (h : rdMnR (b, false) = (x, (l, bad))) : opM b = if (bad || !l.isEmpty) = true then (zeroM, 10) else (x, 0) := by
  unfold opM
  by_cases hbd : (rdMn (b, false)).2.2 = true ∨ ¬ ∀ s ∈ (rdMn (b, false)).1.2.2, s.size ≤ 32
  · have := good_mn.bads (b, false) rfl (hbd.imp id fun h2 h3 => h2 h3.2.2)
    rw [h] at this
    dsimp only at this
    subst this
    rw [if_neg]
    · rfl
    · intro h4
      rcases hbd with h5 | h5
      · rw [h4.1] at h5; cases h5
      · exact h5 (mbad_no.1 h4.2).2
  · have h1 : (rdMn (b, false)).2.2 = false := by
      cases e : (rdMn (b, false)).2.2 with
      | false => rfl
      | true => exact absurd (.inl e) hbd
    have h2 : ∀ s ∈ (rdMn (b, false)).1.2.2, s.size ≤ 32 := Classical.byContradiction fun h => hbd (.inr h)
    have h3 := good_mn.agree (b, false) rfl h1 ⟨trivial, trivial, h2⟩
    obtain ⟨_, _, _, h5, _⟩ := good_mn.sound (b, false) hb rfl h1
    have hm : mbad (rdMn (b, false)).1.2.2 = false := mbad_no.2 ⟨by omega, h2⟩
    rw [h] at h3
    rw [← h3] at h1 hm ⊢
    dsimp only at h1 hm ⊢
    subst h1
    by_cases hl : l = []
    · subst hl; rw [if_pos ⟨rfl, hm⟩]; rfl
    · rw [if_neg (by intro h4; injection h4.1 with h5 _; exact hl h5), if_pos (by cases l with | nil => exact absurd rfl hl | cons x r => rfl)]
def MP (w0 : World) (R : List HP) (x : Mn × Int) (e : Ending) (w' : World) : Prop :=
  ∃ A c, e = .returned (.tuple #[.agg #[.int .u64 x.1.1, .int .u64 x.1.2.1, .slice A x.1.2.2.length c], .int .i64 x.2]) ∧ Hs w0 w' (Ls Enc.str 9 (.slice A x.1.2.2.length c) x.1.2.2 :: R)
set_option maxRecDepth 100000 in
set_option maxHeartbeats 4000000 in
theorem openM31 (v : Value) (b : List Int) (w w0 : World) (R : List HP) (H : Hs w0 w R) (hr : ∀ w', Hs w0 w' R → RdL U8 w' v b) (hb : Byt b) :
    Calls Try.prog 31 #[v] w (MP w0 R (opM b)) := by
  obtain ⟨A0, cb, hv⟩ := (hr w H).form
  subst hv
  obtain ⟨nb, hnb⟩ : ∃ n, b.length = n := ⟨_, rfl⟩
  rw [hnb] at hr ⊢
  replace hnb := Lib.hid hnb
  have K := ((H.alloc (.cells #[.int .u64 0, .int .u64 0, .slice none 0 0] 62)).alloc (.cells #[.slice A0 nb cb, .bool false] 90))
  rw [show (w.alloc (.cells #[.int .u64 0, .int .u64 0, .slice none 0 0] 62)).heap.size = w.heap.size + 1 from Array.size_push ..] at K
  obtain ⟨⟨n, b1, bad1⟩, hs1⟩ : ∃ x, rnum 8 (b, false) = x := ⟨_, rfl⟩
  obtain ⟨⟨ep, b2, bad2⟩, hs2⟩ : ∃ x, rnum 8 (b1, bad1) = x := ⟨_, rfl⟩
  obtain ⟨⟨fs, l, bad⟩, hs3⟩ : ∃ x, rdList rdFile (b2, bad2) = x := ⟨_, rfl⟩
  have hx : rdMn (b, false) = ((n, ep, fs), (l, bad)) := by unfold rdMn rdPair; dsimp only; rw [hs1]; dsimp only; rw [hs2]; dsimp only; rw [hs3]
  have hy1 : Hid (Byt b1) := by have := (good_num 8).byt (b, false) hb; rw [hs1] at this; exact this
  have hy2 : Hid (Byt b2) := by have := (good_num 8).byt (b1, bad1) hy1.out; rw [hs2] at this; exact this
  have hn6 : Hid (U64 n) := by have := rnum_lt 8 (b, false) hb; rw [hs1, p8] at this; exact this
  have he6 : Hid (U64 ep) := by have := rnum_lt 8 (b1, bad1) hy1.out; rw [hs2, p8] at this; exact this
  have hfl : Hid (fs.length ≤ 1000000000) := by have := rdList_len rdFile (b2, bad2) hy2.out; rw [hs3] at this; show _ ≤ _; dsimp only at this; omega
  have hop := opM_yes hb hx
  have hr0 := Lib.hid hr
  have hb0 := Lib.hid hb
  clear hx hr hb H
  replace hs1 := Lib.hid hs1
  replace hs2 := Lib.hid hs2
  replace hs3 := Lib.hid hs3
  replace K := Lib.hid K
  obtain ⟨Q, hQ⟩ : ∃ Q, (!bad && (l.isEmpty && (merr fs == 0 && decide (b = mout n ep fs)))) = Q := ⟨_, rfl⟩
  rw [hQ] at hop
  rw [hop]
  clear hop
  replace hQ := Lib.hid hQ
  obtain ⟨nF, hnF⟩ : ∃ x, fs.length = x := ⟨_, rfl⟩
  cases Q with
  | true =>
    rw [if_pos rfl]
    go_enter Try.func31, Try.ntmps31
    go_upto_region 2 with (fail)
    generalize World.alloc _ _ = w1 at K ⊢
    generalize w.heap.size + 1 = p at K ⊢
    generalize w.heap.size = q at K ⊢
    go_wp2_with fail
    refine (number42 p (.slice A0 nb cb) b false 8 (by omega) _ w0 _ K.out (fun w' h => hr0.out w' h.tail) hb0.out).mono ?_
    rintro e y1 ⟨v1, rfl, hrd, K2⟩
    rw [hs1.out] at hrd K2 ⊢
    have hV1 : Hid (∀ w', Hs w0 w' R → RdL U8 w' v1 b1) := fun w' h => hrd w' (hr0.out w' h)
    replace K2 := Lib.hid K2
    clear K hrd
    go_wp2_with fail
    refine (number42 p v1 b1 bad1 8 (by omega) _ w0 _ K2.out (fun w' h => hV1.out w' h.tail) hy1.out).mono ?_
    rintro e y2 ⟨v2, rfl, hrd, K3⟩
    rw [hs2.out] at hrd K3 ⊢
    have hV2 : Hid (∀ w', Hs w0 w' R → RdL U8 w' v2 b2) := fun w' h => hrd w' (hV1.out w' h)
    have Km := Lib.hid ((K3.alloc (.cells #[.int .u64 n, .int .u64 ep, .slice none 0 0] 62)).at1)
    clear K2 hrd K3
    go_upto_region 3 with (fail)
    generalize World.alloc y2 _ = w3 at Km ⊢
    generalize y2.heap.size = f at Km ⊢
    go_wp2_with fail
    refine (things63 p v2 b2 bad2 w3 w0 _ Km.out (fun w' h => hV2.out w' h.tail.tail) hy2.out).mono ?_
    rw [hs3.out]
    rintro e w4 ⟨AF, cF, v3, rfl, hrd, K4⟩
    dsimp only at hrd K4 ⊢
    rw [hnF] at K4 ⊢
    have hV3 : Hid (∀ w', Hs w0 w' R → RdL U8 w' v3 l) := fun w' h => hrd w' (hV2.out w' h)
    replace K4 := Lib.hid K4
    clear hrd Km
    have d2 : w4.cell? ⟨f, 2, none⟩ = some (.slice none 0 0) := K4.out.at2.cellOf 2 rfl
    have e2 := K4.out.at2.frozenOf 2
    have K5 := Lib.hid (K4.out.at2.setCell (i := 2) (.slice AF nF cF))
    simp only [List.setIfInBounds_toArray, List.set_cons_zero, List.set_cons_succ] at K5
    go_upto_region 4 with (fail)
    clear d2 e2 K4
    generalize World.setCell _ _ _ = w5 at K5 ⊢
    have c0_ : w5.cell? ⟨f, 0, none⟩ = some (.int .u64 n) := K5.out.cellOf 0 rfl
    have c1_ : w5.cell? ⟨f, 1, none⟩ = some (.int .u64 ep) := K5.out.cellOf 1 rfl
    have c2_ : w5.cell? ⟨f, 2, none⟩ = some (.slice AF nF cF) := K5.out.cellOf 2 rfl
    go_wp2_with fail
    refine (manifest29 n ep hn6.out he6.out AF nF cF fs w5 w0 _ K5.out (fun w' h => h.at1.ls_rd) hfl.out).mono ?_
    rintro e w6 ⟨A6, c6, rfl, K6⟩
    have T := Lib.hid (whole47 p v3 (.slice A0 nb cb) (.slice A6 (mout n ep fs).length c6) l b (mout n ep fs) bad (merr fs) w6 w0 _ (K6.at3) (hV3.out w6 K6.tail.tail.tail.tail.tail) (hr0.out w6 K6.tail.tail.tail.tail.tail) K6.ls_rd hb0.out (mout_byt _ _ _))
    rw [hQ.out] at T
    replace K6 := Lib.hid K6.tail
    clear K5 c0_ c1_ c2_
    generalize (mout n ep fs).length = nm at T ⊢
    generalize merr fs = er at T ⊢
    go_wp2_with fail
    refine T.out.mono ?_
    rintro e w7 ⟨rfl, rfl⟩
    clear T
    go_upto_region 7 with (fail)
    have g0_ := K6.out.at3.frozenOf 0
    have g1_ := K6.out.at3.frozenOf 1
    have g2_ := K6.out.at3.frozenOf 2
    have b0_ : w6.cell? ⟨q, 0, none⟩ = some (.int .u64 0) := K6.out.at3.cellOf 0 rfl
    have b1_ : w6.cell? ⟨q, 1, none⟩ = some (.int .u64 0) := K6.out.at3.cellOf 1 rfl
    have b2_ : w6.cell? ⟨q, 2, none⟩ = some (.slice none 0 0) := K6.out.at3.cellOf 2 rfl
    have c0_ : w6.cell? ⟨f, 0, none⟩ = some (.int .u64 n) := K6.out.cellOf 0 rfl
    have c1_ : w6.cell? ⟨f, 1, none⟩ = some (.int .u64 ep) := K6.out.cellOf 1 rfl
    have c2_ : w6.cell? ⟨f, 2, none⟩ = some (.slice AF nF cF) := K6.out.cellOf 2 rfl
    go_wp2_with fail
    have K9 := (((K6.out.at3.setCell (i := 0) (.int .u64 n)).setCell (i := 1) (.int .u64 ep)).setCell (i := 2) (.slice AF nF cF))
    generalize World.setCell _ _ _ = w9 at K9 ⊢
    simp only [List.setIfInBounds_toArray, List.set_cons_zero, List.set_cons_succ] at K9
    have r_0 : w9.cell? ⟨q, 0, none⟩ = some (.int .u64 n) := K9.cellOf 0 rfl
    have r_1 : w9.cell? ⟨q, 1, none⟩ = some (.int .u64 ep) := K9.cellOf 1 rfl
    have r_2 : w9.cell? ⟨q, 2, none⟩ = some (.slice AF nF cF) := K9.cellOf 2 rfl
    refine bodyPost_ret (v := .tuple #[.agg #[.int .u64 n, .int .u64 ep, .slice AF nF cF], .int .i64 0]) ?_ rfl ⟨AF, cF, by rw [hnF], by rw [hnF]; exact K9.tail.tail.at1.tail⟩
    simp [results, Try.results31, go_sem, r_0, r_1, r_2]
  | false =>
    rw [if_neg (by simp)]
    go_enter Try.func31, Try.ntmps31
    go_upto_region 2 with (fail)
    generalize World.alloc _ _ = w1 at K ⊢
    generalize w.heap.size + 1 = p at K ⊢
    generalize w.heap.size = q at K ⊢
    go_wp2_with fail
    refine (number42 p (.slice A0 nb cb) b false 8 (by omega) _ w0 _ K.out (fun w' h => hr0.out w' h.tail) hb0.out).mono ?_
    rintro e y1 ⟨v1, rfl, hrd, K2⟩
    rw [hs1.out] at hrd K2 ⊢
    have hV1 : Hid (∀ w', Hs w0 w' R → RdL U8 w' v1 b1) := fun w' h => hrd w' (hr0.out w' h)
    replace K2 := Lib.hid K2
    clear K hrd
    go_wp2_with fail
    refine (number42 p v1 b1 bad1 8 (by omega) _ w0 _ K2.out (fun w' h => hV1.out w' h.tail) hy1.out).mono ?_
    rintro e y2 ⟨v2, rfl, hrd, K3⟩
    rw [hs2.out] at hrd K3 ⊢
    have hV2 : Hid (∀ w', Hs w0 w' R → RdL U8 w' v2 b2) := fun w' h => hrd w' (hV1.out w' h)
    have Km := Lib.hid ((K3.alloc (.cells #[.int .u64 n, .int .u64 ep, .slice none 0 0] 62)).at1)
    clear K2 hrd K3
    go_upto_region 3 with (fail)
    generalize World.alloc y2 _ = w3 at Km ⊢
    generalize y2.heap.size = f at Km ⊢
    go_wp2_with fail
    refine (things63 p v2 b2 bad2 w3 w0 _ Km.out (fun w' h => hV2.out w' h.tail.tail) hy2.out).mono ?_
    rw [hs3.out]
    rintro e w4 ⟨AF, cF, v3, rfl, hrd, K4⟩
    dsimp only at hrd K4 ⊢
    rw [hnF] at K4 ⊢
    have hV3 : Hid (∀ w', Hs w0 w' R → RdL U8 w' v3 l) := fun w' h => hrd w' (hV2.out w' h)
    replace K4 := Lib.hid K4
    clear hrd Km
    have d2 : w4.cell? ⟨f, 2, none⟩ = some (.slice none 0 0) := K4.out.at2.cellOf 2 rfl
    have e2 := K4.out.at2.frozenOf 2
    have K5 := Lib.hid (K4.out.at2.setCell (i := 2) (.slice AF nF cF))
    simp only [List.setIfInBounds_toArray, List.set_cons_zero, List.set_cons_succ] at K5
    go_upto_region 4 with (fail)
    clear d2 e2 K4
    generalize World.setCell _ _ _ = w5 at K5 ⊢
    have c0_ : w5.cell? ⟨f, 0, none⟩ = some (.int .u64 n) := K5.out.cellOf 0 rfl
    have c1_ : w5.cell? ⟨f, 1, none⟩ = some (.int .u64 ep) := K5.out.cellOf 1 rfl
    have c2_ : w5.cell? ⟨f, 2, none⟩ = some (.slice AF nF cF) := K5.out.cellOf 2 rfl
    go_wp2_with fail
    refine (manifest29 n ep hn6.out he6.out AF nF cF fs w5 w0 _ K5.out (fun w' h => h.at1.ls_rd) hfl.out).mono ?_
    rintro e w6 ⟨A6, c6, rfl, K6⟩
    have T := Lib.hid (whole47 p v3 (.slice A0 nb cb) (.slice A6 (mout n ep fs).length c6) l b (mout n ep fs) bad (merr fs) w6 w0 _ (K6.at3) (hV3.out w6 K6.tail.tail.tail.tail.tail) (hr0.out w6 K6.tail.tail.tail.tail.tail) K6.ls_rd hb0.out (mout_byt _ _ _))
    rw [hQ.out] at T
    replace K6 := Lib.hid K6.tail
    clear K5 c0_ c1_ c2_
    generalize (mout n ep fs).length = nm at T ⊢
    generalize merr fs = er at T ⊢
    go_wp2_with fail
    refine T.out.mono ?_
    rintro e w7 ⟨rfl, rfl⟩
    clear T
    go_upto_region 6 with (fail)
    have g0_ := K6.out.at3.frozenOf 0
    have g1_ := K6.out.at3.frozenOf 1
    have g2_ := K6.out.at3.frozenOf 2
    have b0_ : w6.cell? ⟨q, 0, none⟩ = some (.int .u64 0) := K6.out.at3.cellOf 0 rfl
    have b1_ : w6.cell? ⟨q, 1, none⟩ = some (.int .u64 0) := K6.out.at3.cellOf 1 rfl
    have b2_ : w6.cell? ⟨q, 2, none⟩ = some (.slice none 0 0) := K6.out.at3.cellOf 2 rfl
    go_wp2_with fail
    have K9 := (((K6.out.at3.setCell (i := 0) (.int .u64 0)).setCell (i := 1) (.int .u64 0)).setCell (i := 2) (.slice none 0 0))
    generalize World.setCell _ _ _ = w9 at K9 ⊢
    simp only [List.setIfInBounds_toArray, List.set_cons_zero, List.set_cons_succ] at K9
    have r_0 : w9.cell? ⟨q, 0, none⟩ = some (.int .u64 0) := K9.cellOf 0 rfl
    have r_1 : w9.cell? ⟨q, 1, none⟩ = some (.int .u64 0) := K9.cellOf 1 rfl
    have r_2 : w9.cell? ⟨q, 2, none⟩ = some (.slice none 0 0) := K9.cellOf 2 rfl
    refine bodyPost_ret (v := .tuple #[.agg #[.int .u64 0, .int .u64 0, .slice none 0 0], .int .i64 10]) ?_ rfl ⟨none, 0, rfl, K9.tail.tail.tail.tail.ls_nil _ _⟩
    simp [results, Try.results31, go_sem, r_0, r_1, r_2]
end Go.Proofs.Ytjdkpogkhecijaa

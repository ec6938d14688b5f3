import Derived.Test.YtjdkpogkhecijaaUf
import Derived.Test.YtjdkpogkhecijaaUf
import Derived.Test.YtjdkpogkhecijaaTb
import Derived.Test.YtjdkpogkhecijaaTg
import Derived.Test.YtjdkpogkhecijaaFd
import Derived.IntWalk
import Derived.Test.YtjdkpogkhecijaaProg
import Derived.Test.YtjdkpogkhecijaaLs
import Derived.Outline
import Derived.StillTailTactics
import Derived.Deep.DeepCutAuto
import Derived.Deep.CutBlock
import Derived.Deep.LoopGhost
import Derived.Deep.QuietTactic
import Derived.BigQuiet
import Derived.Deep.RegionHeld3
import Derived.Deep.RegionLaw
set_option linter.unusedVariables false
set_option linter.unusedSimpArgs false
namespace Go.Proofs.Ytjdkpogkhecijaa
open Go.RowKit
theorem thgR_le {α : Type} (rd : Rst → α × Rst) : ∀ (n : Nat) (s : Rst) (out : List α), (thgR rd n s out).1.length ≤ out.length + n := by
  intro n
  induction n with
  | zero => intro s out; exact Nat.le_refl _
  | succ n ih =>
    intro s out
    unfold thgR
    split
    · show out.length ≤ _; omega
    · have := ih (rd s).2 (out ++ [(rd s).1])
      rw [List.length_append] at this
      simp at this
      omega
theorem opN_ref3 {b : List Int} (hb : Byt b) {tk of mk : Int} {N1 N2 N3 : Nat} {ms : List Int} {ps : List Pn4} {os : List Ot} {b1 b2 b3 b4 b5 b6 b7 b8 b9 : List Int} {bad1 bad2 bad3 bad4 bad5 bad6 bad7 bad8 bad9 : Bool}
    (hs1 : rnumR 2 (b, false) = (tk, (b1, bad1))) (hs2 : rnumR 2 (b1, bad1) = (of, (b2, bad2))) (hs3 : rnumR 8 (b2, bad2) = (mk, (b3, bad3))) (hs4 : rnumR 2 (b3, bad3) = ((N1 : Int), (b4, bad4))) (hX1 : thgR (lngR 8) N1 (b4, bad4) [] = (ms, (b5, bad5)))
    (hs6 : rnumR 2 (b5, bad5) = ((N2 : Int), (b6, bad6))) (hX2 : thgR rdPnR N2 (b6, bad6) [] = (ps, (b7, bad7))) (hs8 : rnumR 2 (b7, bad7) = ((N3 : Int), (b8, bad8))) (hX3 : thgR rdOtR N3 (b8, bad8) [] = (os, (b9, bad9))) (hN1 : N1 ≤ 65535) :
    opN b = if (bad9 || (!b9.isEmpty || (decide (4096 < N2) || decide (4096 < N3)))) = true then (zeroS, 10) else ((tk, of, wrap64 mk, ms, ps, os), 0) := by
  have hx : rdSnR (b, false) = ((tk, of, wrap64 mk, ms, ps, os), (b9, bad9)) := by
    unfold rdSnR rdPair
    rw [hs1]; dsimp only; rw [hs2]; dsimp only
    rw [show lngR 8 (b2, bad2) = (wrap64 mk, (b3, bad3)) by unfold lngR; rw [hs3]]
    dsimp only
    rw [show rdListR (lngR 8) (b3, bad3) = (ms, (b5, bad5)) by unfold rdListR; rw [hs4]; dsimp only; rw [Int.toNat_natCast, hX1]]
    dsimp only
    rw [show rdListR rdPnR (b5, bad5) = (ps, (b7, bad7)) by unfold rdListR; rw [hs6]; dsimp only; rw [Int.toNat_natCast, hX2]]
    dsimp only
    rw [show rdListR rdOtR (b7, bad7) = (os, (b9, bad9)) by unfold rdListR; rw [hs8]; dsimp only; rw [Int.toNat_natCast, hX3]]
  have hml : ms.length ≤ 65535 := by
    have := thgR_le (lngR 8) N1 (b4, bad4) []
    rw [hX1] at this
    simp at this
    omega
  rw [opN_ref hb hx hml]
  dsimp only
  cases bad9 with
  | true => rfl
  | false =>
    have h3 := thgR_len rdOtR N3 (b8, bad8) [] (by rw [hX3])
    rw [hX3] at h3
    have hb8 : bad8 = false := by
      cases bad8 with
      | false => rfl
      | true => rw [thgR_stays _ _ _ _ rfl] at hX3; injection hX3 with _ h; injection h with _ h
    have hb7 : bad7 = false := by
      cases bad7 with
      | false => rfl
      | true => have := (good_num 2).staysR (b7, true) rfl; rw [hs8, hb8] at this; cases this
    have h2 := thgR_len rdPnR N2 (b6, bad6) [] (by rw [hX2]; exact hb7)
    rw [hX2] at h2
    simp at h2 h3
    rw [h2, h3]
set_option maxRecDepth 100000 in
set_option maxHeartbeats 16000000 in
theorem ropenS37 (v : Value) (b : List Int) (w w0 : World) (R : List HP) (H : Hs w0 w R) (hr : ∀ w', Hs w0 w' R → RdL U8 w' v b) (hb : Byt b) :
    Calls Try.prog 37 #[v] w (SP w0 R (opN b)) := by
  obtain ⟨A0, cb, hv⟩ := (hr w H).form
  subst hv
  obtain ⟨nb, hnb⟩ : ∃ n, b.length = n := ⟨_, rfl⟩
  rw [hnb] at hr ⊢
  replace hnb := Lib.hid hnb
  have K := ((H.alloc (.cells #[.int .i64 0, .int .i64 0, .int .i64 0, .slice none 0 0, .slice none 0 0, .slice none 0 0] 55)).alloc (.cells #[.slice A0 nb cb, .bool false] 131))
  rw [show (w.alloc (.cells #[.int .i64 0, .int .i64 0, .int .i64 0, .slice none 0 0, .slice none 0 0, .slice none 0 0] 55)).heap.size = w.heap.size + 1 from Array.size_push ..] at K
  obtain ⟨⟨tk, b1, bad1⟩, hs1⟩ : ∃ x, rnumR 2 (b, false) = x := ⟨_, rfl⟩
  have hy1 : Hid (Byt b1) := by have := (good_num 2).bytR (b, false) hb; rw [hs1] at this; exact this
  have hc := rnumR_lt 2 (b, false) hb
  rw [hs1, show (256 : Int) ^ 2 = 65536 from rfl] at hc
  obtain ⟨hc0, hc1⟩ := hc
  dsimp only at hc0 hc1
  have hd1 : 0 ≤ tk ∧ tk < 65536 := ⟨hc0, hc1⟩
  clear hc0 hc1
  obtain ⟨⟨of, b2, bad2⟩, hs2⟩ : ∃ x, rnumR 2 (b1, bad1) = x := ⟨_, rfl⟩
  have hy2 : Hid (Byt b2) := by have := (good_num 2).bytR (b1, bad1) hy1.out; rw [hs2] at this; exact this
  have hc := rnumR_lt 2 (b1, bad1) hy1.out
  rw [hs2, show (256 : Int) ^ 2 = 65536 from rfl] at hc
  obtain ⟨hc0, hc2⟩ := hc
  dsimp only at hc0 hc2
  have hd2 : 0 ≤ of ∧ of < 65536 := ⟨hc0, hc2⟩
  clear hc0 hc2
  obtain ⟨⟨mk, b3, bad3⟩, hs3⟩ : ∃ x, rnumR 8 (b2, bad2) = x := ⟨_, rfl⟩
  have hy3 : Hid (Byt b3) := by have := (good_num 8).bytR (b2, bad2) hy2.out; rw [hs3] at this; exact this
  obtain ⟨⟨x4, b4, bad4⟩, hs4⟩ : ∃ x, rnumR 2 (b3, bad3) = x := ⟨_, rfl⟩
  have hy4 : Hid (Byt b4) := by have := (good_num 2).bytR (b3, bad3) hy3.out; rw [hs4] at this; exact this
  have hc := rnumR_lt 2 (b3, bad3) hy3.out
  rw [hs4, show (256 : Int) ^ 2 = 65536 from rfl] at hc
  obtain ⟨hc0, hc4⟩ := hc
  dsimp only at hc0 hc4
  obtain ⟨N1, rfl⟩ := Int.eq_ofNat_of_zero_le hc0
  clear hc0
  obtain ⟨⟨ms, b5, bad5⟩, hX5⟩ : ∃ x, thgR (lngR 8) N1 (b4, bad4) [] = x := ⟨_, rfl⟩
  have hy5 : Hid (Byt b5) := by have := thgR_byt good_mk N1 (b4, bad4) [] hy4.out; rw [hX5] at this; exact this
  obtain ⟨⟨x6, b6, bad6⟩, hs6⟩ : ∃ x, rnumR 2 (b5, bad5) = x := ⟨_, rfl⟩
  have hy6 : Hid (Byt b6) := by have := (good_num 2).bytR (b5, bad5) hy5.out; rw [hs6] at this; exact this
  have hc := rnumR_lt 2 (b5, bad5) hy5.out
  rw [hs6, show (256 : Int) ^ 2 = 65536 from rfl] at hc
  obtain ⟨hc0, hc6⟩ := hc
  dsimp only at hc0 hc6
  obtain ⟨N2, rfl⟩ := Int.eq_ofNat_of_zero_le hc0
  clear hc0
  obtain ⟨⟨ps, b7, bad7⟩, hX7⟩ : ∃ x, thgR rdPnR N2 (b6, bad6) [] = x := ⟨_, rfl⟩
  have hy7 : Hid (Byt b7) := by have := thgR_byt good_pn N2 (b6, bad6) [] hy6.out; rw [hX7] at this; exact this
  obtain ⟨⟨x8, b8, bad8⟩, hs8⟩ : ∃ x, rnumR 2 (b7, bad7) = x := ⟨_, rfl⟩
  have hy8 : Hid (Byt b8) := by have := (good_num 2).bytR (b7, bad7) hy7.out; rw [hs8] at this; exact this
  have hc := rnumR_lt 2 (b7, bad7) hy7.out
  rw [hs8, show (256 : Int) ^ 2 = 65536 from rfl] at hc
  obtain ⟨hc0, hc8⟩ := hc
  dsimp only at hc0 hc8
  obtain ⟨N3, rfl⟩ := Int.eq_ofNat_of_zero_le hc0
  clear hc0
  obtain ⟨⟨os, b9, bad9⟩, hX9⟩ : ∃ x, thgR rdOtR N3 (b8, bad8) [] = x := ⟨_, rfl⟩
  have hy9 : Hid (Byt b9) := by have := thgR_byt good_ot N3 (b8, bad8) [] hy8.out; rw [hX9] at this; exact this
  have hop := opN_ref3 hb hs1 hs2 hs3 hs4 hX5 hs6 hX7 hs8 hX9 (by omega)
  obtain ⟨X, hXX⟩ : ∃ X, opN b = X := ⟨_, rfl⟩
  rw [hXX] at hop ⊢
  have hop0 := Lib.hid hop
  have hV0 := Lib.hid hr
  have hy0 := Lib.hid hb
  have hwt : IntKind.i64.wrap tk = tk := IntWalk.i64_in _ (by omega)
  have hwo : IntKind.i64.wrap of = of := IntWalk.i64_in _ (by omega)
  clear hr hb H hop hXX hd1 hd2
  replace hs1 := Lib.hid hs1
  replace hs2 := Lib.hid hs2
  replace hs3 := Lib.hid hs3
  replace hs4 := Lib.hid hs4
  replace hs6 := Lib.hid hs6
  replace hs8 := Lib.hid hs8
  replace hX5 := Lib.hid hX5
  replace hX7 := Lib.hid hX7
  replace hX9 := Lib.hid hX9
  replace K := Lib.hid K
  go_enter Try.func37, Try.ntmps37
  go_upto_region 2 with (fail)
  generalize World.alloc _ _ = w1 at K ⊢
  generalize w.heap.size + 1 = p at K ⊢
  generalize w.heap.size = q at K ⊢
  go_wp2_with fail
  refine (num74 p (.slice A0 nb cb) b false 2 (by omega) _ w0 _ K.out (fun w' h => hV0.out w' h.tail) hy0.out).mono ?_
  rintro e y1 ⟨v1, rfl, hrd, K2⟩
  rw [hs1.out] at hrd K2 ⊢
  have hV1 : Hid (∀ w', Hs w0 w' R → RdL U8 w' v1 b1) := fun w' h => hrd w' (hV0.out w' h)
  replace K2 := Lib.hid K2
  clear hrd
  clear K
  go_wp2_with fail
  refine (num74 p v1 b1 bad1 2 (by omega) _ w0 _ K2.out (fun w' h => hV1.out w' h.tail) hy1.out).mono ?_
  rintro e y2 ⟨v2, rfl, hrd, K3⟩
  rw [hs2.out] at hrd K3 ⊢
  have hV2 : Hid (∀ w', Hs w0 w' R → RdL U8 w' v2 b2) := fun w' h => hrd w' (hV1.out w' h)
  replace K3 := Lib.hid K3
  clear hrd
  clear K2
  go_wp2_with fail
  refine (num74 p v2 b2 bad2 8 (by omega) _ w0 _ K3.out (fun w' h => hV2.out w' h.tail) hy2.out).mono ?_
  rintro e y3 ⟨v3, rfl, hrd, K4⟩
  rw [hs3.out] at hrd K4 ⊢
  have hV3 : Hid (∀ w', Hs w0 w' R → RdL U8 w' v3 b3) := fun w' h => hrd w' (hV2.out w' h)
  replace K4 := Lib.hid K4
  clear hrd
  clear K3
  have Km := Lib.hid ((K4.out.alloc (.cells #[.int .i64 tk, .int .i64 of, .int .i64 (wrap64 mk), .slice none 0 0, .slice none 0 0, .slice none 0 0] 55)).at1)
  clear K4
  go_upto_region 3 with (fail)
  generalize World.alloc y3 _ = w3 at Km ⊢
  generalize y3.heap.size = f at Km ⊢
  go_wp2_with fail
  refine (num74 p v3 b3 bad3 2 (by omega) _ w0 _ Km.out (fun w' h => hV3.out w' h.tail.tail) hy3.out).mono ?_
  rintro e y4 ⟨v4, rfl, hrd, K5⟩
  rw [hs4.out] at hrd K5 ⊢
  have hV4 : Hid (∀ w', Hs w0 w' R → RdL U8 w' v4 b4) := fun w' h => hrd w' (hV3.out w' h)
  replace K5 := Lib.hid K5
  clear hrd
  have KL1 := Lib.hid (K5.out.at1.ls_nil (Enc.num .i64) 2)
  clear Km K5
  go_wp2_with fail
  go_loopg [6] N1 (fun g jv wr => ∃ (j : Nat) (A : Option Addr) (m c : Nat) (out : List (Int)) (vi : Value) (bi : List Int) (di : Bool), g = j ∧ jv = .int .u64 j ∧ j ≤ N1 ∧ m + j ≤ N1 ∧ Hid (out.length = m) ∧ Hid (thgR (lngR 8) j (bi, di) out = (ms, (b5, bad5))) ∧ Hid (Byt bi) ∧ Hid (∀ w', Hs w0 w' R → RdL U8 w' vi bi) ∧
    Hid (Hs w0 wr (Ls (Enc.num .i64) 2 (.slice A m c) out :: Blk f (.cells #[.int .i64 tk, .int .i64 of, .int .i64 (wrap64 mk), .slice A m c, .slice none 0 0, .slice none 0 0] 55) :: Blk p (.cells #[vi, .bool di] 131) :: Blk q (.cells #[.int .i64 0, .int .i64 0, .int .i64 0, .slice none 0 0, .slice none 0 0, .slice none 0 0] 55) :: R)))
  case atStart => exact ⟨N1, none, 0, 0, [], v4, b4, bad4, rfl, rfl, Nat.le_refl _, by omega, Lib.hid rfl, hX5, hy4, hV4, KL1⟩
  case round =>
    clear KL1 
    obtain ⟨j, A1, m1, c1, out, vi, bi, di, hg, rfl, hjN, hmj, hm1, hXi, hbi, hVi, K⟩ := hrel
    replace hg := Lib.hid hg
    have p1 : wr.cell? ⟨p, 1, none⟩ = some (.bool di) := K.out.at2.cellOf 1 rfl
    go_upto_region 4 with (fail)
    go_cut [36] from 28 to 46 (fun cv wx => cv = .bool (decide (0 < j) && !di) ∧ wx = wr)
    case first =>
      rcases Nat.eq_zero_or_pos j with h0 | h0
      · have e1 : decide ((0 : Int) < (j : Int)) = false := by rw [decide_eq_false_iff_not]; omega
        have e2 : decide (0 < j) = false := by rw [decide_eq_false_iff_not]; omega
        have e3 : Hid (Value.bool false = .bool (decide (0 < j) && !di)) := by show _ = _; rw [e2]; rfl
        clear h0
        go_wp2_with fail
        go_meet
        case rel => exact ⟨e3.out, rfl⟩
      · have e1 : decide ((0 : Int) < (j : Int)) = true := by rw [decide_eq_true_eq]; omega
        have e2 : decide (0 < j) = true := decide_eq_true h0
        clear h0
        cases di with
        | true =>
          have e3 : Hid (Value.bool false = .bool (decide (0 < j) && !true)) := by show _ = _; rw [e2]; rfl
          go_wp2_with fail
          go_meet
          case rel => exact ⟨e3.out, rfl⟩
        | false =>
          have e3 : Hid (Value.bool true = .bool (decide (0 < j) && !false)) := by show _ = _; rw [e2]; rfl
          go_wp2_with fail
          go_meet
          case rel => exact ⟨e3.out, rfl⟩
    case rest =>
      obtain ⟨rfl, hcw⟩ := hcut
      replace hcw := hcw.symm
      subst hcw
      obtain ⟨qq, hqq⟩ : ∃ x, (decide (0 < j) && !di) = x := ⟨_, rfl⟩
      rw [hqq]
      cases qq with
      | true =>
        rw [Bool.and_eq_true, decide_eq_true_eq, Bool.not_eq_true'] at hqq
        obtain ⟨hj, rfl⟩ := hqq
        obtain ⟨j, rfl⟩ : ∃ i, j = i + 1 := ⟨j - 1, by omega⟩
        have hwj : IntKind.u64.wrap (((j + 1 : Nat) : Int) - 1) = (j : Int) := by rw [IntKind.wrap_u64]; omega
        have hwj3 : IntKind.u64.wrap ((j : Int) + 1 - 1) = (j : Int) := by rw [IntKind.wrap_u64]; omega
        have hstep : thgR (lngR 8) (j + 1) (bi, false) out = thgR (lngR 8) j ((lngR 8) (bi, false)).2 (out ++ [((lngR 8) (bi, false)).1]) := rfl
        rw [hXi.out] at hstep
        clear hj hXi
        obtain ⟨⟨y, bj, dj⟩, hk1⟩ : ∃ x, rnumR 8 (bi, false) = x := ⟨_, rfl⟩
        have hbj : Hid (Byt bj) := by have := (good_num 8).bytR (bi, false) hbi.out; rw [hk1] at this; exact this
        rw [show lngR 8 (bi, false) = (wrap64 y, (bj, dj)) by unfold lngR; rw [hk1]] at hstep
        have hXj : Hid (thgR (lngR 8) j (bj, dj) (out ++ [wrap64 y]) = (ms, (b5, bad5))) := hstep.symm
        replace hk1 := Lib.hid hk1
        have KQ := Lib.hid K.out
        have SS : Hid (∀ X w' v, Hs w0 w' (X :: Blk f (.cells #[.int .i64 tk, .int .i64 of, .int .i64 (wrap64 mk), .slice A1 m1 c1, .slice none 0 0, .slice none 0 0] 55) :: v :: Blk q (.cells #[.int .i64 0, .int .i64 0, .int .i64 0, .slice none 0 0, .slice none 0 0, .slice none 0 0] 55) :: R) → w'.cell? ⟨f, 3, none⟩ = some (.slice A1 m1 c1)) := fun X w' v h => h.at1.cellOf 3 rfl
        have hm9 : m1 + 1 ≤ 70000 := by omega
        have hyw : IntKind.i64.wrap y = wrap64 y := by rw [IntKind.wrap_i64]; unfold wrap64; omega
        go_upto_region 6 with (fail)
        clear p1 K hstep
        refine wp_region_left (S := fun w' : World => w'.cell? ⟨f, 3, none⟩ = some (.slice A1 m1 c1)) 8 mixed ?_
        have hS : (fun w' : World => w'.cell? ⟨f, 3, none⟩ = some (.slice A1 m1 c1)) wr.drew := by exact SS.out _ _ _ KQ.out.drew
        refine Left.pure (i := 0) (v := ?v6_0) rfl (by kernel_rfl) (fun _ _ _ h => h) (Or.inr hS) (Or.inl ⟨by kernel_rfl, fun w _ => ?hy6_0⟩) ?rest6_0
        case hy6_0 => (go_simp; try with_reducible rfl)
        try simp only [Act.put, List.setIfInBounds_toArray, List.set_cons_zero, List.set_cons_succ]
        refine Left.take (i := 1) (v := ?v6_1) rfl (by kernel_rfl) (fun _ _ _ h => h) hS (Or.inl ⟨by kernel_rfl, fun w hSw => ?hy6_1⟩) ?rest6_1
        case hy6_1 => ((try dsimp only at hSw); go_simp; try with_reducible rfl)
        try simp only [Act.put, List.setIfInBounds_toArray, List.set_cons_zero, List.set_cons_succ]
        refine Left.pure (i := 2) (v := ?v6_2) rfl (by kernel_rfl) (fun _ _ _ h => h) (Or.inr hS) (Or.inl ⟨by kernel_rfl, fun w _ => ?hy6_2⟩) ?rest6_2
        case hy6_2 => (go_simp; try with_reducible rfl)
        try simp only [Act.put, List.setIfInBounds_toArray, List.set_cons_zero, List.set_cons_succ]
        refine Left.run (i := 3) rfl (by kernel_rfl) (fun K hK => ?_)
        go_simp
        go_at_call 74
        refine (num74 p vi bi false 8 (by omega) _ w0 _ KQ.out.drew.at2 (fun w' h => hVi.out w' h.tail.tail.tail) hbi.out).mono ?_
        rw [hk1.out]
        rintro e w5 ⟨vj, rfl, hrd, K5⟩
        have hVj : Hid (∀ w', Hs w0 w' R → RdL U8 w' vj bj) := fun w' h => hrd w' (hVi.out w' h)
        replace K5 := Lib.hid (K5.at2.at2)
        clear hrd
        dsimp only at K5 ⊢
        go_simp
        replace hS : (fun w' : World => w'.cell? ⟨f, 3, none⟩ = some (.slice A1 m1 c1)) w5 := by exact SS.out _ _ _ K5.out
        refine hK.out _ _ (Or.inr hS) ?_
        clear hK K
        try simp only [Act.put, List.setIfInBounds_toArray, List.set_cons_zero, List.set_cons_succ]
        refine Left.pure (i := 4) (v := ?v6_4) rfl (by kernel_rfl) (fun _ _ _ h => h) (Or.inr hS) (Or.inl ⟨by kernel_rfl, fun w _ => ?hy6_4⟩) ?rest6_4
        case hy6_4 => (go_simp; try with_reducible rfl)
        try simp only [Act.put, List.setIfInBounds_toArray, List.set_cons_zero, List.set_cons_succ]
        refine Left.run (i := 5) rfl (by kernel_rfl) (fun K hK => ?_)
        go_simp
        replace hS : (fun w' : World => w'.cell? ⟨f, 3, none⟩ = some (.slice A1 m1 c1)) (w5.alloc (.cells #[.int .i64 (wrap64 y)] 2)) := by exact SS.out _ _ _ (K5.out.alloc_ _)
        refine hK.out _ _ (Or.inr hS) ?_
        clear hK K
        try simp only [Act.put, List.setIfInBounds_toArray, List.set_cons_zero, List.set_cons_succ]
        refine Left.run (i := 6) rfl (by kernel_rfl) (fun K hK => ?_)
        refine step_append_box (E := Enc.num .i64) (v := .slice A1 m1 c1) (by rfl) (.tmp 40) (.tmp 44) 51 (by rfl) 2 _ 1 8 Try.underlying51 infoTh68 rfl (by decide) (by decide) rfl (by rfl) (by rfl) (K5.out.alloc_ _) (wrap64 y) (by exact RdL.boxAt _ (by simp)) (by rw [hm1.out]; omega) ?_
        intro A6 c6 w6 K6
        rw [hm1.out] at K6
        rw [hm1.out]
        replace hS : (fun w' : World => w'.cell? ⟨f, 3, none⟩ = some (.slice A1 m1 c1)) w6 := by exact SS.out _ _ _ K6
        refine hK.out _ _ (Or.inr hS) ?_
        clear hK K
        try simp only [Act.put, List.setIfInBounds_toArray, List.set_cons_zero, List.set_cons_succ]
        refine Left.pure (i := 7) (v := ?v6_7) rfl (by kernel_rfl) (fun _ _ _ h => h) (Or.inr hS) (Or.inl ⟨by kernel_rfl, fun w _ => ?hy6_7⟩) ?rest6_7
        case hy6_7 => (go_simp; try with_reducible rfl)
        try simp only [Act.put, List.setIfInBounds_toArray, List.set_cons_zero, List.set_cons_succ]
        refine Left.run (i := 8) rfl (by kernel_rfl) (fun K hK => ?_)
        have f2 := K6.at1.frozenOf 3
        have d2 := K6.at1.cellOf 3 rfl
        go_simp
        refine hK.out _ _ (Or.inl (by kernel_rfl)) ?_
        clear hK K
        try simp only [Act.put, List.setIfInBounds_toArray, List.set_cons_zero, List.set_cons_succ]
        refine Left.done (by kernel_rfl) ?_ _
        have K7 := Lib.hid ((K6.at1.setCell (i := 3) (.slice A6 (m1 + 1) c6)).at1)
        simp only [List.setIfInBounds_toArray, List.set_cons_zero, List.set_cons_succ] at K7
        clear KQ SS f2 d2 K6 K5
        generalize World.setCell _ _ _ = w7 at K7 ⊢
        go_wp2_with fail
        go_roundg j
        case measure => have := hg.out; omega
        case rel => exact ⟨j, A6, m1 + 1, c6, out ++ [wrap64 y], vj, bj, dj, rfl, rfl, by omega, by omega, Lib.hid (by rw [List.length_append, hm1.out]; rfl), hXj, hbj, hVj, K7⟩
      | false =>
        have hXe : (out, ((bi, di) : Rst)) = (ms, (b5, bad5)) := by
          have h1 := hXi.out
          rcases Nat.eq_zero_or_pos j with h0 | h0
          · subst h0; exact h1
          · cases di with
            | true => rw [thgR_stays _ _ _ _ rfl] at h1; exact h1
            | false => rw [decide_eq_true h0] at hqq; cases hqq
        obtain ⟨h1, h2⟩ := Prod.mk.inj hXe
        obtain ⟨h3, h4⟩ := Prod.mk.inj h2
        replace h1 := h1.symm
        replace h3 := h3.symm
        replace h4 := h4.symm
        subst h1
        subst h3
        subst h4
        have hmN1 : m1 ≤ N1 := by omega
        have hV5 : Hid (∀ w', Hs w0 w' R → RdL U8 w' vi b5) := hVi
        clear hXe h2 hXi hVi hbi hqq hg p1 hmj hjN
        go_wp2_with fail
        refine (num74 p vi b5 bad5 2 (by omega) wr w0 _ K.out.at2 (fun w' h => hV5.out w' h.tail.tail.tail) hy5.out).mono ?_
        rintro e y6 ⟨v6, rfl, hrd, KC⟩
        rw [hs6.out] at hrd KC ⊢
        have hV6 : Hid (∀ w', Hs w0 w' R → RdL U8 w' v6 b6) := fun w' h => hrd w' (hV5.out w' h)
        replace KC := Lib.hid KC
        clear hrd
        have KL2 := Lib.hid (KC.out.at2.ls_nil ((Enc.num .i64).pair (((Enc.num .i64).pair (Enc.num .i64)).pair (Enc.num .i64))) 106)
        clear K KC
        go_wp2_with fail
        go_loopg [8] N2 (fun g jv wr => ∃ (j : Nat) (A : Option Addr) (m c : Nat) (out : List (Pn4)) (vi : Value) (bi : List Int) (di : Bool), g = j ∧ jv = .int .u64 j ∧ j ≤ N2 ∧ m + j ≤ N2 ∧ Hid (out.length = m) ∧ Hid (thgR rdPnR j (bi, di) out = (ps, (b7, bad7))) ∧ Hid (Byt bi) ∧ Hid (∀ w', Hs w0 w' R → RdL U8 w' vi bi) ∧
          Hid (Hs w0 wr (Ls ((Enc.num .i64).pair (((Enc.num .i64).pair (Enc.num .i64)).pair (Enc.num .i64))) 106 (.slice A m c) out :: Blk f (.cells #[.int .i64 tk, .int .i64 of, .int .i64 (wrap64 mk), .slice A1 m1 c1, .slice A m c, .slice none 0 0] 55) :: Blk p (.cells #[vi, .bool di] 131) :: Ls (Enc.num .i64) 2 (.slice A1 m1 c1) ms :: Blk q (.cells #[.int .i64 0, .int .i64 0, .int .i64 0, .slice none 0 0, .slice none 0 0, .slice none 0 0] 55) :: R)))
        case atStart => exact ⟨N2, none, 0, 0, [], v6, b6, bad6, rfl, rfl, Nat.le_refl _, by omega, Lib.hid rfl, hX7, hy6, hV6, KL2⟩
        case round =>
          clear KL2 
          obtain ⟨j, A2, m2, c2, out, vi, bi, di, hg, rfl, hjN, hmj, hm2, hXi, hbi, hVi, K⟩ := hrel
          replace hg := Lib.hid hg
          have p1 : wr.cell? ⟨p, 1, none⟩ = some (.bool di) := K.out.at2.cellOf 1 rfl
          go_upto_region 9 with (fail)
          go_cut [58] from 50 to 82 (fun cv wx => cv = .bool (decide (0 < j) && !di) ∧ wx = wr)
          case first =>
            rcases Nat.eq_zero_or_pos j with h0 | h0
            · have e1 : decide ((0 : Int) < (j : Int)) = false := by rw [decide_eq_false_iff_not]; omega
              have e2 : decide (0 < j) = false := by rw [decide_eq_false_iff_not]; omega
              have e3 : Hid (Value.bool false = .bool (decide (0 < j) && !di)) := by show _ = _; rw [e2]; rfl
              clear h0
              go_wp2_with fail
              go_meet
              case rel => exact ⟨e3.out, rfl⟩
            · have e1 : decide ((0 : Int) < (j : Int)) = true := by rw [decide_eq_true_eq]; omega
              have e2 : decide (0 < j) = true := decide_eq_true h0
              clear h0
              cases di with
              | true =>
                have e3 : Hid (Value.bool false = .bool (decide (0 < j) && !true)) := by show _ = _; rw [e2]; rfl
                go_wp2_with fail
                go_meet
                case rel => exact ⟨e3.out, rfl⟩
              | false =>
                have e3 : Hid (Value.bool true = .bool (decide (0 < j) && !false)) := by show _ = _; rw [e2]; rfl
                go_wp2_with fail
                go_meet
                case rel => exact ⟨e3.out, rfl⟩
          case rest =>
            obtain ⟨rfl, hcw⟩ := hcut
            replace hcw := hcw.symm
            subst hcw
            obtain ⟨qq, hqq⟩ : ∃ x, (decide (0 < j) && !di) = x := ⟨_, rfl⟩
            rw [hqq]
            cases qq with
            | true =>
              rw [Bool.and_eq_true, decide_eq_true_eq, Bool.not_eq_true'] at hqq
              obtain ⟨hj, rfl⟩ := hqq
              obtain ⟨j, rfl⟩ : ∃ i, j = i + 1 := ⟨j - 1, by omega⟩
              have hwj : IntKind.u64.wrap (((j + 1 : Nat) : Int) - 1) = (j : Int) := by rw [IntKind.wrap_u64]; omega
              have hwj3 : IntKind.u64.wrap ((j : Int) + 1 - 1) = (j : Int) := by rw [IntKind.wrap_u64]; omega
              have hstep : thgR rdPnR (j + 1) (bi, false) out = thgR rdPnR j (rdPnR (bi, false)).2 (out ++ [(rdPnR (bi, false)).1]) := rfl
              rw [hXi.out] at hstep
              clear hj hXi
              obtain ⟨⟨y1, e1, de1⟩, hk1⟩ : ∃ x, rnumR 8 (bi, false) = x := ⟨_, rfl⟩
              have he1 : Hid (Byt e1) := by have := (good_num 8).bytR (bi, false) hbi.out; rw [hk1] at this; exact this
              obtain ⟨⟨y2, e2, de2⟩, hk2⟩ : ∃ x, rnumR 8 (e1, de1) = x := ⟨_, rfl⟩
              have he2 : Hid (Byt e2) := by have := (good_num 8).bytR (e1, de1) he1.out; rw [hk2] at this; exact this
              obtain ⟨⟨y3, e3, de3⟩, hk3⟩ : ∃ x, rnumR 8 (e2, de2) = x := ⟨_, rfl⟩
              have he3 : Hid (Byt e3) := by have := (good_num 8).bytR (e2, de2) he2.out; rw [hk3] at this; exact this
              obtain ⟨⟨y4, e4, de4⟩, hk4⟩ : ∃ x, rnumR 8 (e3, de3) = x := ⟨_, rfl⟩
              have he4 : Hid (Byt e4) := by have := (good_num 8).bytR (e3, de3) he3.out; rw [hk4] at this; exact this
              rw [show rdPnR (bi, false) = ((wrap64 y1, (wrap64 y2, wrap64 y3), wrap64 y4), (e4, de4)) by unfold rdPnR rdPair lngR; rw [hk1]; dsimp only; rw [hk2]; dsimp only; rw [hk3]; dsimp only; rw [hk4]] at hstep
              have hXj : Hid (thgR rdPnR j (e4, de4) (out ++ [(wrap64 y1, (wrap64 y2, wrap64 y3), wrap64 y4)]) = (ps, (b7, bad7))) := hstep.symm
              replace hk1 := Lib.hid hk1
              replace hk2 := Lib.hid hk2
              replace hk3 := Lib.hid hk3
              replace hk4 := Lib.hid hk4
              have K1 := Lib.hid K.out.at2
              have hm9 : m2 + 1 ≤ 70000 := by omega
              clear p1 K hstep
              go_wp2_with fail
              refine (num74 p vi bi false 8 (by omega) _ w0 _ K1.out (fun w' h => hVi.out w' h.tail.tail.tail.tail) hbi.out).mono ?_
              rintro e z1 ⟨u1', rfl, hrd, K2⟩
              rw [hk1.out] at hrd K2 ⊢
              have hU1 : Hid (∀ w', Hs w0 w' R → RdL U8 w' u1' e1) := fun w' h => hrd w' (hVi.out w' h)
              replace K2 := Lib.hid K2
              clear hrd
              have K3 := Lib.hid (K2.out.alloc (.cells #[.int .i64 (wrap64 y1), .int .i64 0, .int .i64 0, .int .i64 0] 106)).at1
              clear K1 K2
              go_upto_region 12 with (fail)
              generalize World.alloc z1 _ = wa at K3 ⊢
              generalize z1.heap.size = pb at K3 ⊢
              go_wp2_with fail
              refine (num74 p u1' e1 de1 8 (by omega) _ w0 _ K3.out (fun w' h => hU1.out w' h.tail.tail.tail.tail.tail) he1.out).mono ?_
              rintro e z2 ⟨u2', rfl, hrd, K4⟩
              rw [hk2.out] at hrd K4 ⊢
              have hU2 : Hid (∀ w', Hs w0 w' R → RdL U8 w' u2' e2) := fun w' h => hrd w' (hU1.out w' h)
              replace K4 := Lib.hid K4
              clear hrd
              clear K3
              go_wp2_with fail
              refine (num74 p u2' e2 de2 8 (by omega) _ w0 _ K4.out (fun w' h => hU2.out w' h.tail.tail.tail.tail.tail) he2.out).mono ?_
              rintro e z3 ⟨u3', rfl, hrd, K5⟩
              rw [hk3.out] at hrd K5 ⊢
              have hU3 : Hid (∀ w', Hs w0 w' R → RdL U8 w' u3' e3) := fun w' h => hrd w' (hU2.out w' h)
              replace K5 := Lib.hid K5
              clear hrd
              have d1 : z3.cell? ⟨pb, 1, none⟩ = some (.int .i64 0) := K5.out.at1.cellOf 1 rfl
              have f1 := K5.out.at1.frozenOf 1
              have d2 : z3.cell? ⟨pb, 2, none⟩ = some (.int .i64 0) := K5.out.at1.cellOf 2 rfl
              have f2 := K5.out.at1.frozenOf 2
              have K6 := Lib.hid ((K5.out.at1.setCell (i := 1) (.int .i64 (wrap64 y2))).setCell (i := 2) (.int .i64 (wrap64 y3))).at1
              simp only [List.setIfInBounds_toArray, List.set_cons_zero, List.set_cons_succ] at K6
              go_upto_region 13 with (fail)
              clear d1 d2 f1 f2 K4 K5
              generalize World.setCell _ _ _ = wc at K6 ⊢
              go_wp2_with fail
              refine (num74 p u3' e3 de3 8 (by omega) _ w0 _ K6.out (fun w' h => hU3.out w' h.tail.tail.tail.tail.tail) he3.out).mono ?_
              rintro e z4 ⟨u4', rfl, hrd, K7⟩
              rw [hk4.out] at hrd K7 ⊢
              have hU4 : Hid (∀ w', Hs w0 w' R → RdL U8 w' u4' e4) := fun w' h => hrd w' (hU3.out w' h)
              replace K7 := Lib.hid K7
              clear hrd
              have d1 : z4.cell? ⟨pb, 3, none⟩ = some (.int .i64 0) := K7.out.at1.cellOf 3 rfl
              have f1 := K7.out.at1.frozenOf 3
              have K8 := (K7.out.at1.setCell (i := 3) (.int .i64 (wrap64 y4)))
              simp only [List.setIfInBounds_toArray, List.set_cons_zero, List.set_cons_succ] at K8
              go_upto_region 14 with (fail)
              clear d1 f1 K6 K7
              generalize World.setCell _ _ _ = wd at K8 ⊢
              have g0_ : wd.cell? ⟨pb, 0, none⟩ = some (.int .i64 (wrap64 y1)) := K8.cellOf 0 rfl
              have g1_ : wd.cell? ⟨pb, 1, none⟩ = some (.int .i64 (wrap64 y2)) := K8.cellOf 1 rfl
              have g2_ : wd.cell? ⟨pb, 2, none⟩ = some (.int .i64 (wrap64 y3)) := K8.cellOf 2 rfl
              have g3_ : wd.cell? ⟨pb, 3, none⟩ = some (.int .i64 (wrap64 y4)) := K8.cellOf 3 rfl
              have K9 := Lib.hid (K8.tail.at2.at2)
              have c4_ : wd.cell? ⟨f, 4, none⟩ = some (.slice A2 m2 c2) := K9.out.at1.cellOf 4 rfl
              clear K8
              go_wp2_with (at_builtin; refine wpList_append1N (E := (Enc.num .i64).pair (((Enc.num .i64).pair (Enc.num .i64)).pair (Enc.num .i64))) m2 hm2.out rfl (.tmp 78) (.tmp 80) 52 rfl 106 _ 4 32 Try.underlying52 infoTh69 rfl (by decide) (by decide) rfl rfl rfl (by simp) K9.out (wrap64 y1, (wrap64 y2, wrap64 y3), wrap64 y4) (by omega) ?_)
              intro A6 c6 w6 Ka
              have d1 : w6.cell? ⟨f, 4, none⟩ = some (.slice A2 m2 c2) := Ka.at1.cellOf 4 rfl
              have f1 := Ka.at1.frozenOf 4
              have Kb := Lib.hid (Ka.at1.setCell (i := 4) (.slice A6 (m2 + 1) c6)).at1
              simp only [List.setIfInBounds_toArray, List.set_cons_zero, List.set_cons_succ] at Kb
              clear K9 Ka c4_ g0_ g1_ g2_ g3_
              go_wp2_with fail
              clear d1 f1
              go_roundg j
              case measure => have := hg.out; omega
              case rel => exact ⟨j, A6, m2 + 1, c6, out ++ [(wrap64 y1, (wrap64 y2, wrap64 y3), wrap64 y4)], u4', e4, de4, rfl, rfl, by omega, by omega, Lib.hid (by rw [List.length_append, hm2.out]; rfl), hXj, he4, hU4, Kb⟩
            | false =>
              have hXe : (out, ((bi, di) : Rst)) = (ps, (b7, bad7)) := by
                have h1 := hXi.out
                rcases Nat.eq_zero_or_pos j with h0 | h0
                · subst h0; exact h1
                · cases di with
                  | true => rw [thgR_stays _ _ _ _ rfl] at h1; exact h1
                  | false => rw [decide_eq_true h0] at hqq; cases hqq
              obtain ⟨h1, h2⟩ := Prod.mk.inj hXe
              obtain ⟨h3, h4⟩ := Prod.mk.inj h2
              replace h1 := h1.symm
              replace h3 := h3.symm
              replace h4 := h4.symm
              subst h1
              subst h3
              subst h4
              have hmN2 : m2 ≤ N2 := by omega
              have hV7 : Hid (∀ w', Hs w0 w' R → RdL U8 w' vi b7) := hVi
              clear hXe h2 hXi hVi hbi hqq hg p1 hmj hjN
              go_wp2_with fail
              refine (num74 p vi b7 bad7 2 (by omega) wr w0 _ K.out.at2 (fun w' h => hV7.out w' h.tail.tail.tail.tail) hy7.out).mono ?_
              rintro e y8 ⟨v8, rfl, hrd, KC⟩
              rw [hs8.out] at hrd KC ⊢
              have hV8 : Hid (∀ w', Hs w0 w' R → RdL U8 w' v8 b8) := fun w' h => hrd w' (hV7.out w' h)
              replace KC := Lib.hid KC
              clear hrd
              have KL3 := Lib.hid (KC.out.at2.ls_nil ((Enc.num .i64).pair ((Enc.num .i64).pair (((Enc.num .i64).pair ((Enc.num .i64).pair (Enc.num .i64))).pair ((Enc.num .i64).pair ((Enc.num .u64).pair Enc.flag))))) 97)
              clear K KC
              go_wp2_with fail
              go_loopg [11] N3 (fun g jv wr => ∃ (j : Nat) (A : Option Addr) (m c : Nat) (out : List (Ot)) (vi : Value) (bi : List Int) (di : Bool), g = j ∧ jv = .int .u64 j ∧ j ≤ N3 ∧ m + j ≤ N3 ∧ Hid (out.length = m) ∧ Hid (thgR rdOtR j (bi, di) out = (os, (b9, bad9))) ∧ Hid (Byt bi) ∧ Hid (∀ w', Hs w0 w' R → RdL U8 w' vi bi) ∧
                Hid (Hs w0 wr (Ls ((Enc.num .i64).pair ((Enc.num .i64).pair (((Enc.num .i64).pair ((Enc.num .i64).pair (Enc.num .i64))).pair ((Enc.num .i64).pair ((Enc.num .u64).pair Enc.flag))))) 97 (.slice A m c) out :: Blk f (.cells #[.int .i64 tk, .int .i64 of, .int .i64 (wrap64 mk), .slice A1 m1 c1, .slice A2 m2 c2, .slice A m c] 55) :: Blk p (.cells #[vi, .bool di] 131) :: Ls ((Enc.num .i64).pair (((Enc.num .i64).pair (Enc.num .i64)).pair (Enc.num .i64))) 106 (.slice A2 m2 c2) ps :: Ls (Enc.num .i64) 2 (.slice A1 m1 c1) ms :: Blk q (.cells #[.int .i64 0, .int .i64 0, .int .i64 0, .slice none 0 0, .slice none 0 0, .slice none 0 0] 55) :: R)))
              case atStart => exact ⟨N3, none, 0, 0, [], v8, b8, bad8, rfl, rfl, Nat.le_refl _, by omega, Lib.hid rfl, hX9, hy8, hV8, KL3⟩
              case round =>
                clear KL3 
                obtain ⟨j, A3, m3, c3, out, vi, bi, di, hg, rfl, hjN, hmj, hm3, hXi, hbi, hVi, K⟩ := hrel
                replace hg := Lib.hid hg
                have p1 : wr.cell? ⟨p, 1, none⟩ = some (.bool di) := K.out.at2.cellOf 1 rfl
                go_upto_region 17 with (fail)
                go_cut [94] from 86 to 109 (fun cv wx => cv = .bool (decide (0 < j) && !di) ∧ wx = wr)
                case first =>
                  rcases Nat.eq_zero_or_pos j with h0 | h0
                  · have e1 : decide ((0 : Int) < (j : Int)) = false := by rw [decide_eq_false_iff_not]; omega
                    have e2 : decide (0 < j) = false := by rw [decide_eq_false_iff_not]; omega
                    have e3 : Hid (Value.bool false = .bool (decide (0 < j) && !di)) := by show _ = _; rw [e2]; rfl
                    clear h0
                    go_wp2_with fail
                    go_meet
                    case rel => exact ⟨e3.out, rfl⟩
                  · have e1 : decide ((0 : Int) < (j : Int)) = true := by rw [decide_eq_true_eq]; omega
                    have e2 : decide (0 < j) = true := decide_eq_true h0
                    clear h0
                    cases di with
                    | true =>
                      have e3 : Hid (Value.bool false = .bool (decide (0 < j) && !true)) := by show _ = _; rw [e2]; rfl
                      go_wp2_with fail
                      go_meet
                      case rel => exact ⟨e3.out, rfl⟩
                    | false =>
                      have e3 : Hid (Value.bool true = .bool (decide (0 < j) && !false)) := by show _ = _; rw [e2]; rfl
                      go_wp2_with fail
                      go_meet
                      case rel => exact ⟨e3.out, rfl⟩
                case rest =>
                  obtain ⟨rfl, hcw⟩ := hcut
                  replace hcw := hcw.symm
                  subst hcw
                  obtain ⟨qq, hqq⟩ : ∃ x, (decide (0 < j) && !di) = x := ⟨_, rfl⟩
                  rw [hqq]
                  cases qq with
                  | true =>
                    rw [Bool.and_eq_true, decide_eq_true_eq, Bool.not_eq_true'] at hqq
                    obtain ⟨hj, rfl⟩ := hqq
                    obtain ⟨j, rfl⟩ : ∃ i, j = i + 1 := ⟨j - 1, by omega⟩
                    have hwj : IntKind.u64.wrap (((j + 1 : Nat) : Int) - 1) = (j : Int) := by rw [IntKind.wrap_u64]; omega
                    have hwj3 : IntKind.u64.wrap ((j : Int) + 1 - 1) = (j : Int) := by rw [IntKind.wrap_u64]; omega
                    have hstep : thgR rdOtR (j + 1) (bi, false) out = thgR rdOtR j (rdOtR (bi, false)).2 (out ++ [(rdOtR (bi, false)).1]) := rfl
                    rw [hXi.out] at hstep
                    clear hj hXi
                    obtain ⟨⟨y1, e1, de1⟩, hk1⟩ : ∃ x, rnumR 2 (bi, false) = x := ⟨_, rfl⟩
                    have he1 : Hid (Byt e1) := by have := (good_num 2).bytR (bi, false) hbi.out; rw [hk1] at this; exact this
                    have hc := rnumR_lt 2 (bi, false) hbi.out
                    rw [hk1, show (256 : Int) ^ 2 = 65536 from rfl] at hc
                    obtain ⟨hc0, hc9⟩ := hc
                    dsimp only at hc0 hc9
                    have hwc : IntKind.i64.wrap y1 = y1 := IntWalk.i64_in _ (by omega)
                    obtain ⟨⟨⟨k, ⟨r1, r2, r3⟩, mr, nn, o⟩, e2, de2⟩, hk2⟩ : ∃ x, rdFrR (e1, de1) = x := ⟨_, rfl⟩
                    have he2 : Hid (Byt e2) := by have := good_frame.bytR (e1, de1) he1.out; rw [hk2] at this; exact this
                    rw [show rdOtR (bi, false) = ((y1, k, (r1, r2, r3), mr, nn, o), (e2, de2)) by unfold rdOtR rdPair; rw [hk1]; dsimp only; rw [hk2]] at hstep
                    have hXj : Hid (thgR rdOtR j (e2, de2) (out ++ [(y1, k, (r1, r2, r3), mr, nn, o)]) = (os, (b9, bad9))) := hstep.symm
                    replace hk1 := Lib.hid hk1
                    replace hk2 := Lib.hid hk2
                    have K1 := Lib.hid K.out.at2
                    have hm9 : m3 + 1 ≤ 70000 := by omega
                    clear p1 K hstep hc0 hc9
                    go_wp2_with fail
                    refine (num74 p vi bi false 2 (by omega) _ w0 _ K1.out (fun w' h => hVi.out w' h.tail.tail.tail.tail.tail) hbi.out).mono ?_
                    rintro e z1 ⟨u1', rfl, hrd, K2⟩
                    rw [hk1.out] at hrd K2 ⊢
                    have hU1 : Hid (∀ w', Hs w0 w' R → RdL U8 w' u1' e1) := fun w' h => hrd w' (hVi.out w' h)
                    replace K2 := Lib.hid K2
                    clear hrd
                    have K3 := Lib.hid (K2.out.alloc (.cells #[.int .i64 y1, .int .i64 0, .int .i64 0, .int .i64 0, .int .i64 0, .int .i64 0, .int .u64 0, .bool false] 97)).at1
                    clear K1 K2
                    go_upto_region 20 with (fail)
                    generalize World.alloc z1 _ = wa at K3 ⊢
                    generalize z1.heap.size = pb at K3 ⊢
                    go_wp2_with fail
                    refine (rframe73 p u1' e1 de1 _ w0 _ K3.out (fun w' h => hU1.out w' h.tail.tail.tail.tail.tail.tail) he1.out).mono ?_
                    rintro e z2 ⟨u2', rfl, hrd, K4⟩
                    rw [hk2.out] at hrd K4 ⊢
                    dsimp only [frv, frc] at hrd K4 ⊢
                    have hU2 : Hid (∀ w', Hs w0 w' R → RdL U8 w' u2' e2) := fun w' h => hrd w' (hU1.out w' h)
                    have b0_ : z2.cell? ⟨pb, 0, none⟩ = some (.int .i64 y1) := K4.at1.cellOf 0 rfl
                    have b1_ : z2.cell? ⟨pb, 1, none⟩ = some (.int .i64 0) := K4.at1.cellOf 1 rfl
                    have b2_ : z2.cell? ⟨pb, 2, none⟩ = some (.int .i64 0) := K4.at1.cellOf 2 rfl
                    have b3_ : z2.cell? ⟨pb, 3, none⟩ = some (.int .i64 0) := K4.at1.cellOf 3 rfl
                    have b4_ : z2.cell? ⟨pb, 4, none⟩ = some (.int .i64 0) := K4.at1.cellOf 4 rfl
                    have b5_ : z2.cell? ⟨pb, 5, none⟩ = some (.int .i64 0) := K4.at1.cellOf 5 rfl
                    have b6_ : z2.cell? ⟨pb, 6, none⟩ = some (.int .u64 0) := K4.at1.cellOf 6 rfl
                    have b7_ : z2.cell? ⟨pb, 7, none⟩ = some (.bool false) := K4.at1.cellOf 7 rfl
                    have f1_ := K4.at1.frozenOf 1
                    have f2_ := K4.at1.frozenOf 2
                    have f3_ := K4.at1.frozenOf 3
                    have f4_ := K4.at1.frozenOf 4
                    have f5_ := K4.at1.frozenOf 5
                    have f6_ := K4.at1.frozenOf 6
                    have f7_ := K4.at1.frozenOf 7
                    have K8 := (((((((K4.at1.setCell (i := 1) (.int .i64 k)).setCell (i := 2) (.int .i64 r1)).setCell (i := 3) (.int .i64 r2)).setCell (i := 4) (.int .i64 r3)).setCell (i := 5) (.int .i64 mr)).setCell (i := 6) (.int .u64 nn)).setCell (i := 7) (.bool o))
                    simp only [List.setIfInBounds_toArray, List.set_cons_zero, List.set_cons_succ] at K8
                    go_upto_region 21 with (fail)
                    clear b0_ b1_ b2_ b3_ b4_ b5_ b6_ b7_ f1_ f2_ f3_ f4_ f5_ f6_ f7_ K3 K4 hrd
                    generalize World.setCell _ _ _ = wd at K8 ⊢
                    have g0_ : wd.cell? ⟨pb, 0, none⟩ = some (.int .i64 y1) := K8.cellOf 0 rfl
                    have g1_ : wd.cell? ⟨pb, 1, none⟩ = some (.int .i64 k) := K8.cellOf 1 rfl
                    have g2_ : wd.cell? ⟨pb, 2, none⟩ = some (.int .i64 r1) := K8.cellOf 2 rfl
                    have g3_ : wd.cell? ⟨pb, 3, none⟩ = some (.int .i64 r2) := K8.cellOf 3 rfl
                    have g4_ : wd.cell? ⟨pb, 4, none⟩ = some (.int .i64 r3) := K8.cellOf 4 rfl
                    have g5_ : wd.cell? ⟨pb, 5, none⟩ = some (.int .i64 mr) := K8.cellOf 5 rfl
                    have g6_ : wd.cell? ⟨pb, 6, none⟩ = some (.int .u64 nn) := K8.cellOf 6 rfl
                    have g7_ : wd.cell? ⟨pb, 7, none⟩ = some (.bool o) := K8.cellOf 7 rfl
                    have K9 := Lib.hid (K8.tail.at2.at2)
                    have c4_ : wd.cell? ⟨f, 5, none⟩ = some (.slice A3 m3 c3) := K9.out.at1.cellOf 5 rfl
                    clear K8
                    go_wp2_with (at_builtin; refine wpList_append1N (E := (Enc.num .i64).pair ((Enc.num .i64).pair (((Enc.num .i64).pair ((Enc.num .i64).pair (Enc.num .i64))).pair ((Enc.num .i64).pair ((Enc.num .u64).pair Enc.flag))))) m3 hm3.out rfl (.tmp 105) (.tmp 107) 53 rfl 97 _ 8 64 Try.underlying53 infoTh71 rfl (by decide) (by decide) rfl rfl rfl (by simp) K9.out (y1, k, (r1, r2, r3), mr, nn, o) (by omega) ?_)
                    intro A6 c6 w6 Ka
                    have d1 : w6.cell? ⟨f, 5, none⟩ = some (.slice A3 m3 c3) := Ka.at1.cellOf 5 rfl
                    have f1 := Ka.at1.frozenOf 5
                    have Kb := Lib.hid (Ka.at1.setCell (i := 5) (.slice A6 (m3 + 1) c6)).at1
                    simp only [List.setIfInBounds_toArray, List.set_cons_zero, List.set_cons_succ] at Kb
                    clear K9 Ka c4_ g0_ g1_ g2_ g3_ g4_ g5_ g6_ g7_
                    go_wp2_with fail
                    clear d1 f1
                    go_roundg j
                    case measure => have := hg.out; omega
                    case rel => exact ⟨j, A6, m3 + 1, c6, out ++ [(y1, k, (r1, r2, r3), mr, nn, o)], u2', e2, de2, rfl, rfl, by omega, by omega, Lib.hid (by rw [List.length_append, hm3.out]; rfl), hXj, he2, hU2, Kb⟩
                  | false =>
                    have hXe : (out, ((bi, di) : Rst)) = (os, (b9, bad9)) := by
                      have h1 := hXi.out
                      rcases Nat.eq_zero_or_pos j with h0 | h0
                      · subst h0; exact h1
                      · cases di with
                        | true => rw [thgR_stays _ _ _ _ rfl] at h1; exact h1
                        | false => rw [decide_eq_true h0] at hqq; cases hqq
                    obtain ⟨h1, h2⟩ := Prod.mk.inj hXe
                    obtain ⟨h3, h4⟩ := Prod.mk.inj h2
                    replace h1 := h1.symm
                    replace h3 := h3.symm
                    replace h4 := h4.symm
                    subst h1
                    subst h3
                    subst h4
                    have hmN3 : m3 ≤ N3 := by omega
                    have hV9 : Hid (∀ w', Hs w0 w' R → RdL U8 w' vi b9) := hVi
                    clear hXe h2 hXi hVi hbi hqq hg p1 hmj hjN
                    obtain ⟨Ai, ci, hvi⟩ := (hV9.out wr K.out.tail.tail.tail.tail.tail.tail).form
                    subst hvi
                    obtain ⟨ni, hni⟩ : ∃ n, b9.length = n := ⟨_, rfl⟩
                    rw [hni] at hV9 K
                    have hie : b9.isEmpty = decide (ni = 0) := by
                      rw [← hni]
                      cases b9 with
                      | nil => rfl
                      | cons x r => rfl
                    rw [hie] at hop0
                    have p0 : wr.cell? ⟨p, 0, none⟩ = some (.slice Ai ni ci) := K.out.at2.cellOf 0 rfl
                    have p1 : wr.cell? ⟨p, 1, none⟩ = some (.bool bad9) := K.out.at2.cellOf 1 rfl
                    clear hie
                    replace hni := Lib.hid hni
                    cases bad9 with
                    | true =>
                      have hop := hop0.out
                      rw [if_pos (by simp)] at hop
                      subst hop
                      clear hop0
                      go_upto_region 23 with (fail)
                      clear p0 p1
                      have g0_ := K.out.at5.frozenOf 0
                      have g1_ := K.out.at5.frozenOf 1
                      have g2_ := K.out.at5.frozenOf 2
                      have g3_ := K.out.at5.frozenOf 3
                      have g4_ := K.out.at5.frozenOf 4
                      have g5_ := K.out.at5.frozenOf 5
                      have b0_ : wr.cell? ⟨q, 0, none⟩ = some (.int .i64 0) := K.out.at5.cellOf 0 rfl
                      have b1_ : wr.cell? ⟨q, 1, none⟩ = some (.int .i64 0) := K.out.at5.cellOf 1 rfl
                      have b2_ : wr.cell? ⟨q, 2, none⟩ = some (.int .i64 0) := K.out.at5.cellOf 2 rfl
                      have b3_ : wr.cell? ⟨q, 3, none⟩ = some (.slice none 0 0) := K.out.at5.cellOf 3 rfl
                      have b4_ : wr.cell? ⟨q, 4, none⟩ = some (.slice none 0 0) := K.out.at5.cellOf 4 rfl
                      have b5_ : wr.cell? ⟨q, 5, none⟩ = some (.slice none 0 0) := K.out.at5.cellOf 5 rfl
                      go_wp2_with fail
                      have K9 := ((((((K.out.at5.setCell (i := 0) (.int .i64 0)).setCell (i := 1) (.int .i64 0)).setCell (i := 2) (.int .i64 0)).setCell (i := 3) (.slice none 0 0)).setCell (i := 4) (.slice none 0 0)).setCell (i := 5) (.slice none 0 0))
                      generalize World.setCell _ _ _ = w9 at K9 ⊢
                      simp only [List.setIfInBounds_toArray, List.set_cons_zero, List.set_cons_succ] at K9
                      have r0_ : w9.cell? ⟨q, 0, none⟩ = some (.int .i64 0) := K9.cellOf 0 rfl
                      have r1_ : w9.cell? ⟨q, 1, none⟩ = some (.int .i64 0) := K9.cellOf 1 rfl
                      have r2_ : w9.cell? ⟨q, 2, none⟩ = some (.int .i64 0) := K9.cellOf 2 rfl
                      have r3_ : w9.cell? ⟨q, 3, none⟩ = some (.slice none 0 0) := K9.cellOf 3 rfl
                      have r4_ : w9.cell? ⟨q, 4, none⟩ = some (.slice none 0 0) := K9.cellOf 4 rfl
                      have r5_ : w9.cell? ⟨q, 5, none⟩ = some (.slice none 0 0) := K9.cellOf 5 rfl
                      refine bodyPost_ret (v := .tuple #[.agg #[.int .i64 0, .int .i64 0, .int .i64 0, .slice none 0 0, .slice none 0 0, .slice none 0 0], .int .i64 10]) ?_ rfl ⟨none, 0, none, 0, none, 0, rfl, ((K9.tail.tail.tail.tail.tail.tail.ls_nil _ _).ls_nil _ _).ls_nil _ _⟩
                      simp [results, Try.results37, go_sem, r0_, r1_, r2_, r3_, r4_, r5_]
                    | false =>
                      by_cases x1 : 0 < ni
                      · have e1 : decide ((0 : Int) < (ni : Int)) = true := by rw [decide_eq_true_eq]; omega
                        have e2 : decide (0 < ni) = true := decide_eq_true x1
                        have hop := hop0.out
                        rw [decide_eq_false (show ¬ ni = 0 by omega), if_pos (by simp)] at hop
                        subst hop
                        clear hop0 x1
                        go_upto_region 23 with (fail)
                        clear p0 p1 e1 e2
                        have g0_ := K.out.at5.frozenOf 0
                        have g1_ := K.out.at5.frozenOf 1
                        have g2_ := K.out.at5.frozenOf 2
                        have g3_ := K.out.at5.frozenOf 3
                        have g4_ := K.out.at5.frozenOf 4
                        have g5_ := K.out.at5.frozenOf 5
                        have b0_ : wr.cell? ⟨q, 0, none⟩ = some (.int .i64 0) := K.out.at5.cellOf 0 rfl
                        have b1_ : wr.cell? ⟨q, 1, none⟩ = some (.int .i64 0) := K.out.at5.cellOf 1 rfl
                        have b2_ : wr.cell? ⟨q, 2, none⟩ = some (.int .i64 0) := K.out.at5.cellOf 2 rfl
                        have b3_ : wr.cell? ⟨q, 3, none⟩ = some (.slice none 0 0) := K.out.at5.cellOf 3 rfl
                        have b4_ : wr.cell? ⟨q, 4, none⟩ = some (.slice none 0 0) := K.out.at5.cellOf 4 rfl
                        have b5_ : wr.cell? ⟨q, 5, none⟩ = some (.slice none 0 0) := K.out.at5.cellOf 5 rfl
                        go_wp2_with fail
                        have K9 := ((((((K.out.at5.setCell (i := 0) (.int .i64 0)).setCell (i := 1) (.int .i64 0)).setCell (i := 2) (.int .i64 0)).setCell (i := 3) (.slice none 0 0)).setCell (i := 4) (.slice none 0 0)).setCell (i := 5) (.slice none 0 0))
                        generalize World.setCell _ _ _ = w9 at K9 ⊢
                        simp only [List.setIfInBounds_toArray, List.set_cons_zero, List.set_cons_succ] at K9
                        have r0_ : w9.cell? ⟨q, 0, none⟩ = some (.int .i64 0) := K9.cellOf 0 rfl
                        have r1_ : w9.cell? ⟨q, 1, none⟩ = some (.int .i64 0) := K9.cellOf 1 rfl
                        have r2_ : w9.cell? ⟨q, 2, none⟩ = some (.int .i64 0) := K9.cellOf 2 rfl
                        have r3_ : w9.cell? ⟨q, 3, none⟩ = some (.slice none 0 0) := K9.cellOf 3 rfl
                        have r4_ : w9.cell? ⟨q, 4, none⟩ = some (.slice none 0 0) := K9.cellOf 4 rfl
                        have r5_ : w9.cell? ⟨q, 5, none⟩ = some (.slice none 0 0) := K9.cellOf 5 rfl
                        refine bodyPost_ret (v := .tuple #[.agg #[.int .i64 0, .int .i64 0, .int .i64 0, .slice none 0 0, .slice none 0 0, .slice none 0 0], .int .i64 10]) ?_ rfl ⟨none, 0, none, 0, none, 0, rfl, ((K9.tail.tail.tail.tail.tail.tail.ls_nil _ _).ls_nil _ _).ls_nil _ _⟩
                        simp [results, Try.results37, go_sem, r0_, r1_, r2_, r3_, r4_, r5_]
                      have e1 : decide ((0 : Int) < (ni : Int)) = false := by rw [decide_eq_false_iff_not]; omega
                      have e2 : decide (0 < ni) = false := decide_eq_false x1
                      by_cases x2 : 4096 < N2
                      · have e3 : decide ((4096 : Int) < (N2 : Int)) = true := by rw [decide_eq_true_eq]; omega
                        have e4 : decide (4096 < N2) = true := decide_eq_true x2
                        have hop := hop0.out
                        rw [e4, if_pos (by simp)] at hop
                        subst hop
                        clear hop0 x1 x2
                        go_upto_region 23 with (fail)
                        clear p0 p1 e1 e2 e3 e4
                        have g0_ := K.out.at5.frozenOf 0
                        have g1_ := K.out.at5.frozenOf 1
                        have g2_ := K.out.at5.frozenOf 2
                        have g3_ := K.out.at5.frozenOf 3
                        have g4_ := K.out.at5.frozenOf 4
                        have g5_ := K.out.at5.frozenOf 5
                        have b0_ : wr.cell? ⟨q, 0, none⟩ = some (.int .i64 0) := K.out.at5.cellOf 0 rfl
                        have b1_ : wr.cell? ⟨q, 1, none⟩ = some (.int .i64 0) := K.out.at5.cellOf 1 rfl
                        have b2_ : wr.cell? ⟨q, 2, none⟩ = some (.int .i64 0) := K.out.at5.cellOf 2 rfl
                        have b3_ : wr.cell? ⟨q, 3, none⟩ = some (.slice none 0 0) := K.out.at5.cellOf 3 rfl
                        have b4_ : wr.cell? ⟨q, 4, none⟩ = some (.slice none 0 0) := K.out.at5.cellOf 4 rfl
                        have b5_ : wr.cell? ⟨q, 5, none⟩ = some (.slice none 0 0) := K.out.at5.cellOf 5 rfl
                        go_wp2_with fail
                        have K9 := ((((((K.out.at5.setCell (i := 0) (.int .i64 0)).setCell (i := 1) (.int .i64 0)).setCell (i := 2) (.int .i64 0)).setCell (i := 3) (.slice none 0 0)).setCell (i := 4) (.slice none 0 0)).setCell (i := 5) (.slice none 0 0))
                        generalize World.setCell _ _ _ = w9 at K9 ⊢
                        simp only [List.setIfInBounds_toArray, List.set_cons_zero, List.set_cons_succ] at K9
                        have r0_ : w9.cell? ⟨q, 0, none⟩ = some (.int .i64 0) := K9.cellOf 0 rfl
                        have r1_ : w9.cell? ⟨q, 1, none⟩ = some (.int .i64 0) := K9.cellOf 1 rfl
                        have r2_ : w9.cell? ⟨q, 2, none⟩ = some (.int .i64 0) := K9.cellOf 2 rfl
                        have r3_ : w9.cell? ⟨q, 3, none⟩ = some (.slice none 0 0) := K9.cellOf 3 rfl
                        have r4_ : w9.cell? ⟨q, 4, none⟩ = some (.slice none 0 0) := K9.cellOf 4 rfl
                        have r5_ : w9.cell? ⟨q, 5, none⟩ = some (.slice none 0 0) := K9.cellOf 5 rfl
                        refine bodyPost_ret (v := .tuple #[.agg #[.int .i64 0, .int .i64 0, .int .i64 0, .slice none 0 0, .slice none 0 0, .slice none 0 0], .int .i64 10]) ?_ rfl ⟨none, 0, none, 0, none, 0, rfl, ((K9.tail.tail.tail.tail.tail.tail.ls_nil _ _).ls_nil _ _).ls_nil _ _⟩
                        simp [results, Try.results37, go_sem, r0_, r1_, r2_, r3_, r4_, r5_]
                      have e3 : decide ((4096 : Int) < (N2 : Int)) = false := by rw [decide_eq_false_iff_not]; omega
                      have e4 : decide (4096 < N2) = false := decide_eq_false x2
                      by_cases x3 : 4096 < N3
                      · have e5 : decide ((4096 : Int) < (N3 : Int)) = true := by rw [decide_eq_true_eq]; omega
                        have e6 : decide (4096 < N3) = true := decide_eq_true x3
                        have hop := hop0.out
                        rw [e6, if_pos (by simp)] at hop
                        subst hop
                        clear hop0 x1 x2 x3
                        go_upto_region 23 with (fail)
                        clear p0 p1 e1 e2 e3 e4 e5 e6
                        have g0_ := K.out.at5.frozenOf 0
                        have g1_ := K.out.at5.frozenOf 1
                        have g2_ := K.out.at5.frozenOf 2
                        have g3_ := K.out.at5.frozenOf 3
                        have g4_ := K.out.at5.frozenOf 4
                        have g5_ := K.out.at5.frozenOf 5
                        have b0_ : wr.cell? ⟨q, 0, none⟩ = some (.int .i64 0) := K.out.at5.cellOf 0 rfl
                        have b1_ : wr.cell? ⟨q, 1, none⟩ = some (.int .i64 0) := K.out.at5.cellOf 1 rfl
                        have b2_ : wr.cell? ⟨q, 2, none⟩ = some (.int .i64 0) := K.out.at5.cellOf 2 rfl
                        have b3_ : wr.cell? ⟨q, 3, none⟩ = some (.slice none 0 0) := K.out.at5.cellOf 3 rfl
                        have b4_ : wr.cell? ⟨q, 4, none⟩ = some (.slice none 0 0) := K.out.at5.cellOf 4 rfl
                        have b5_ : wr.cell? ⟨q, 5, none⟩ = some (.slice none 0 0) := K.out.at5.cellOf 5 rfl
                        go_wp2_with fail
                        have K9 := ((((((K.out.at5.setCell (i := 0) (.int .i64 0)).setCell (i := 1) (.int .i64 0)).setCell (i := 2) (.int .i64 0)).setCell (i := 3) (.slice none 0 0)).setCell (i := 4) (.slice none 0 0)).setCell (i := 5) (.slice none 0 0))
                        generalize World.setCell _ _ _ = w9 at K9 ⊢
                        simp only [List.setIfInBounds_toArray, List.set_cons_zero, List.set_cons_succ] at K9
                        have r0_ : w9.cell? ⟨q, 0, none⟩ = some (.int .i64 0) := K9.cellOf 0 rfl
                        have r1_ : w9.cell? ⟨q, 1, none⟩ = some (.int .i64 0) := K9.cellOf 1 rfl
                        have r2_ : w9.cell? ⟨q, 2, none⟩ = some (.int .i64 0) := K9.cellOf 2 rfl
                        have r3_ : w9.cell? ⟨q, 3, none⟩ = some (.slice none 0 0) := K9.cellOf 3 rfl
                        have r4_ : w9.cell? ⟨q, 4, none⟩ = some (.slice none 0 0) := K9.cellOf 4 rfl
                        have r5_ : w9.cell? ⟨q, 5, none⟩ = some (.slice none 0 0) := K9.cellOf 5 rfl
                        refine bodyPost_ret (v := .tuple #[.agg #[.int .i64 0, .int .i64 0, .int .i64 0, .slice none 0 0, .slice none 0 0, .slice none 0 0], .int .i64 10]) ?_ rfl ⟨none, 0, none, 0, none, 0, rfl, ((K9.tail.tail.tail.tail.tail.tail.ls_nil _ _).ls_nil _ _).ls_nil _ _⟩
                        simp [results, Try.results37, go_sem, r0_, r1_, r2_, r3_, r4_, r5_]
                      have e5 : decide ((4096 : Int) < (N3 : Int)) = false := by rw [decide_eq_false_iff_not]; omega
                      have e6 : decide (4096 < N3) = false := decide_eq_false x3
                      have hop := hop0.out
                      rw [e4, e6, decide_eq_true (show ni = 0 by omega), if_neg (by simp)] at hop
                      subst hop
                      clear hop0 x1 x2 x3
                      go_upto_region 24 with (fail)
                      clear p0 p1 e1 e2 e3 e4 e5 e6
                      have g0_ := K.out.at5.frozenOf 0
                      have g1_ := K.out.at5.frozenOf 1
                      have g2_ := K.out.at5.frozenOf 2
                      have g3_ := K.out.at5.frozenOf 3
                      have g4_ := K.out.at5.frozenOf 4
                      have g5_ := K.out.at5.frozenOf 5
                      have b0_ : wr.cell? ⟨q, 0, none⟩ = some (.int .i64 0) := K.out.at5.cellOf 0 rfl
                      have b1_ : wr.cell? ⟨q, 1, none⟩ = some (.int .i64 0) := K.out.at5.cellOf 1 rfl
                      have b2_ : wr.cell? ⟨q, 2, none⟩ = some (.int .i64 0) := K.out.at5.cellOf 2 rfl
                      have b3_ : wr.cell? ⟨q, 3, none⟩ = some (.slice none 0 0) := K.out.at5.cellOf 3 rfl
                      have b4_ : wr.cell? ⟨q, 4, none⟩ = some (.slice none 0 0) := K.out.at5.cellOf 4 rfl
                      have b5_ : wr.cell? ⟨q, 5, none⟩ = some (.slice none 0 0) := K.out.at5.cellOf 5 rfl
                      have c0_ : wr.cell? ⟨f, 0, none⟩ = some (.int .i64 tk) := K.out.at1.cellOf 0 rfl
                      have c1_ : wr.cell? ⟨f, 1, none⟩ = some (.int .i64 of) := K.out.at1.cellOf 1 rfl
                      have c2_ : wr.cell? ⟨f, 2, none⟩ = some (.int .i64 (wrap64 mk)) := K.out.at1.cellOf 2 rfl
                      have c3_ : wr.cell? ⟨f, 3, none⟩ = some (.slice A1 m1 c1) := K.out.at1.cellOf 3 rfl
                      have c4_ : wr.cell? ⟨f, 4, none⟩ = some (.slice A2 m2 c2) := K.out.at1.cellOf 4 rfl
                      have c5_ : wr.cell? ⟨f, 5, none⟩ = some (.slice A3 m3 c3) := K.out.at1.cellOf 5 rfl
                      go_wp2_with fail
                      have K9 := ((((((K.out.at5.setCell (i := 0) (.int .i64 tk)).setCell (i := 1) (.int .i64 of)).setCell (i := 2) (.int .i64 (wrap64 mk))).setCell (i := 3) (.slice A1 m1 c1)).setCell (i := 4) (.slice A2 m2 c2)).setCell (i := 5) (.slice A3 m3 c3))
                      generalize World.setCell _ _ _ = w9 at K9 ⊢
                      simp only [List.setIfInBounds_toArray, List.set_cons_zero, List.set_cons_succ] at K9
                      have r0_ : w9.cell? ⟨q, 0, none⟩ = some (.int .i64 tk) := K9.cellOf 0 rfl
                      have r1_ : w9.cell? ⟨q, 1, none⟩ = some (.int .i64 of) := K9.cellOf 1 rfl
                      have r2_ : w9.cell? ⟨q, 2, none⟩ = some (.int .i64 (wrap64 mk)) := K9.cellOf 2 rfl
                      have r3_ : w9.cell? ⟨q, 3, none⟩ = some (.slice A1 m1 c1) := K9.cellOf 3 rfl
                      have r4_ : w9.cell? ⟨q, 4, none⟩ = some (.slice A2 m2 c2) := K9.cellOf 4 rfl
                      have r5_ : w9.cell? ⟨q, 5, none⟩ = some (.slice A3 m3 c3) := K9.cellOf 5 rfl
                      refine bodyPost_ret (v := .tuple #[.agg #[.int .i64 tk, .int .i64 of, .int .i64 (wrap64 mk), .slice A1 m1 c1, .slice A2 m2 c2, .slice A3 m3 c3], .int .i64 0]) ?_ rfl ⟨A1, c1, A2, c2, A3, c3, by rw [hm1.out, hm2.out, hm3.out], by rw [hm1.out, hm2.out, hm3.out]; exact K9.tail.at1.tail.at1.tail⟩
                      simp [results, Try.results37, go_sem, r0_, r1_, r2_, r3_, r4_, r5_]
end Go.Proofs.Ytjdkpogkhecijaa

import Derived.Test.YtjdkpogkhecijaaUa
import Derived.IntWalk
import Derived.Test.YtjdkpogkhecijaaProg
import Derived.Test.YtjdkpogkhecijaaLs
import Derived.Outline
import Derived.StillTailTactics
import Derived.Deep.DeepCutAuto
import Derived.Deep.CutBlock
import Derived.Deep.LoopGhost
import Derived.Deep.QuietTactic
import Derived.BigQuiet
import Derived.Deep.RegionHeld3
import Derived.Deep.RegionLaw
set_option linter.unusedVariables false
set_option linter.unusedSimpArgs false
namespace Go.Proofs.Ytjdkpogkhecijaa
open Go.RowKit
set_option maxRecDepth 100000 in
set_option maxHeartbeats 4000000 in
theorem rmanifest30 (mn me : Int) (hmn : U64 mn) (hme : U64 me) (AF : Option Addr) (nF cF : Nat) (l : List ByteArray) (w w0 : World) (R : List HP) (H : Hs w0 w R) (hr : ∀ w', Hs w0 w' R → RdL Enc.str w' (.slice AF nF cF) l) (hl : l.length ≤ 1000000000) :
    Calls Try.prog 30 #[.agg #[.int .u64 mn, .int .u64 me, .slice AF nF cF]] w (BE w0 R (mout mn me l) (merr l)) := by
  have hnF := (hr w H).caps.1
  have hcF := (hr w H).caps.2
  obtain ⟨hn0, hn1⟩ := hmn
  obtain ⟨he0, he1⟩ := hme
  have hmn : Hid (0 ≤ mn ∧ mn < 18446744073709551616) := ⟨hn0, hn1⟩
  have hme : Hid (0 ≤ me ∧ me < 18446744073709551616) := ⟨he0, he1⟩
  have c8_ : Hid (((8 : Nat) : Int) = 8) := rfl
  have c2_ : Hid (((2 : Nat) : Int) = 2) := rfl
  have h8 : Hid (8 ≤ 8) := Nat.le_refl 8
  have h2 : Hid (2 ≤ 8) := by show _ ≤ _; omega
  obtain ⟨z, hz⟩ : ∃ z : Nat, 0 = z := ⟨_, rfl⟩
  have hz0 : Hid (z ≤ 1000000000) := by show _ ≤ _; omega
  have hz1 : Hid (z + 8 ≤ 1000000000) := by show _ ≤ _; omega
  have hz2 : Hid (z + 8 + 8 ≤ 1000000000) := by show _ ≤ _; omega
  have hz16 : z + 8 + 8 ≤ 16 := by omega
  have hL0 : Hid (([] : List Int).length = z) := hz
  replace hz := Lib.hid hz
  have hr0 := Lib.hid hr
  have K := Lib.hid (H.alloc (.cells #[.int .u64 mn, .int .u64 me, .slice AF nF cF] 62))
  clear H hr
  by_cases hbig : 65535 < nF
  · have hb : mbad l = true := by unfold mbad; rw [decide_eq_true (by omega)]; rfl
    have e1 : decide ((65535 : Int) < (nF : Int)) = true := by rw [decide_eq_true_eq]; omega
    have e2 : decide (65535 < nF) = true := by rw [decide_eq_true_eq]; omega
    rw [show mout mn me l = [] from if_pos hb, show merr l = 12 from if_pos hb]
    clear hb hnF hbig
    go_enter Try.func30, Try.ntmps30
    go_upto_region 1 with (fail)
    generalize World.alloc _ _ = w1 at K ⊢
    generalize w.heap.size = p at K ⊢
    have q2 : w1.cell? ⟨p, 2, none⟩ = some (.slice AF nF cF) := K.out.cellOf 2 rfl
    go_wp2_with fail
    go_ret2
    exact ⟨none, 0, rfl, K.out.tail.ls_nil _ _⟩
  have e1 : decide ((65535 : Int) < (nF : Int)) = false := by rw [decide_eq_false_iff_not]; omega
  have e2 : decide (65535 < nF) = false := by rw [decide_eq_false_iff_not]; omega
  have hmb : mbad l = l.any longN := by unfold mbad; rw [decide_eq_false (by omega)]; rfl
  have hnF0 := Lib.hid hnF
  have hnFb : nF ≤ 65535 := by omega
  have hnl : Hid (0 ≤ (nF : Int) ∧ (nF : Int) < 18446744073709551616) := by show _ ∧ _; omega
  obtain ⟨mo, hmo⟩ : ∃ x, mout mn me l = x := ⟨_, rfl⟩
  obtain ⟨mr, hmr⟩ : ∃ x, merr l = x := ⟨_, rfl⟩
  have X1 : Hid (l.any longN = true → mo = [] ∧ mr = 12) := fun h => by
    rw [h] at hmb
    exact ⟨by rw [← hmo]; exact if_pos hmb, by rw [← hmr]; exact if_pos hmb⟩
  have X2 : Hid (l.any longN = false → mo = manB mn me l ∧ mr = 0) := fun h => by
    rw [h] at hmb
    exact ⟨by rw [← hmo]; exact if_neg (by rw [hmb]; simp), by rw [← hmr]; exact if_neg (by rw [hmb]; simp)⟩
  rw [hmo, hmr]
  clear hmb hnF hbig hmo hmr
  go_enter Try.func30, Try.ntmps30
  go_upto_region 1 with (fail)
  generalize World.alloc _ _ = w1 at K ⊢
  generalize w.heap.size = p at K ⊢
  have q2 : w1.cell? ⟨p, 2, none⟩ = some (.slice AF nF cF) := K.out.cellOf 2 rfl
  go_upto_region 3 with (fail)
  have KQ := Lib.hid (K.out.ls_nil U8 5)
  clear K q2
  have SS : Hid (∀ X w', Hs w0 w' (X :: Blk p (.cells #[.int .u64 mn, .int .u64 me, .slice AF nF cF] 62) :: R) → w'.cell? ⟨p, 0, none⟩ = some (.int .u64 mn) ∧ w'.cell? ⟨p, 1, none⟩ = some (.int .u64 me) ∧ w'.cell? ⟨p, 2, none⟩ = some (.slice AF nF cF)) := fun X w' h => ⟨h.at1.cellOf 0 rfl, h.at1.cellOf 1 rfl, h.at1.cellOf 2 rfl⟩
  have hxn : IntKind.u64.wrap (nF : Int) = (nF : Int) := by rw [IntKind.wrap_u64]; omega
  go_region_held3 (fun w' => w'.cell? ⟨p, 0, none⟩ = some (.int .u64 mn) ∧ w'.cell? ⟨p, 1, none⟩ = some (.int .u64 me) ∧ w'.cell? ⟨p, 2, none⟩ = some (.slice AF nF cF))
    (first | with_reducible exact SS.out _ _ KQ.out.drew | with_reducible exact SS.out _ _ K_a | with_reducible exact SS.out _ _ K_b | with_reducible exact SS.out _ _ K_c)
    (first
      | (go_at_call 41; (with_reducible refine (put41N (z) (.slice none 0 0) ([]) hL0.out (mn) hmn.out 8 h8.out 8 c8_ _ w0 _ KQ.out.drew hz0.out).mono ?_); rintro e w_a ⟨A_a, c_a, rfl, h_a, K_a⟩)
      | (go_at_call 41; (with_reducible refine (put41N (z + 8) (.slice A_a (z + 8) c_a) ([] ++ put 8 mn) h_a (me) hme.out 8 h8.out 8 c8_ _ w0 _ K_a hz1.out).mono ?_); rintro e w_b ⟨A_b, c_b, rfl, h_b, K_b⟩)
      | (go_at_call 41; (with_reducible refine (put41N (z + 8 + 8) (.slice A_b (z + 8 + 8) c_b) (([] ++ put 8 mn) ++ put 8 me) h_b ((nF : Int)) hnl.out 2 h2.out 2 c2_ _ w0 _ K_b hz2.out).mono ?_); rintro e w_c ⟨A_c, c_c, rfl, h_c, K_c⟩))
  have KF := Lib.hid K_c
  have h_z := Lib.hid h_c
  clear K_a K_b K_c h_a h_b h_c SS KQ hxn
  obtain ⟨B, hB⟩ : ∃ B, ((([] : List Int) ++ put 8 mn) ++ put 8 me) ++ put 2 (nF : Int) = B := ⟨_, rfl⟩
  rw [hB] at KF h_z
  have hman : Hid (manB mn me l = B ++ l.flatMap fileB) := by show _ = _; rw [← hB]; unfold manB; rw [← hnF0.out]; simp
  clear hB
  go_wp2_with fail
  go_loopg [4, 5] nF (fun g lv iv wr => ∃ (i : Nat) (A : Option Addr) (m c : Nat) (cur : List Int), g + i = nF ∧ iv = .int .i64 i ∧ lv = .slice A m c ∧ m ≤ 18 + i * 33 ∧ Hid (cur.length = m) ∧ Hid ((l.take i).any longN = false) ∧ Hid (cur = B ++ (l.take i).flatMap fileB) ∧ Hid (Hs w0 wr (Ls U8 5 (.slice A m c) cur :: Blk p (.cells #[.int .u64 mn, .int .u64 me, .slice AF nF cF] 62) :: R)))
  case atStart => exact ⟨0, A_c, z + 8 + 8 + 2, c_c, B, rfl, rfl, rfl, by omega, h_z, Lib.hid (by rw [List.take_zero]; rfl), Lib.hid (by rw [List.take_zero, List.flatMap_nil, List.append_nil]), KF⟩
  case round =>
    clear KF h_z
    obtain ⟨i, A3, m, c3, cur, hg, rfl, rfl, hm, hcm, hany, hcur, K⟩ := hrel
    have hiN : i ≤ nF := by omega
    replace hg := Lib.hid hg
    have q2 : wr.cell? ⟨p, 2, none⟩ = some (.slice AF nF cF) := K.out.at1.cellOf 2 rfl
    rcases Nat.lt_or_ge i nF with hlt | hlt
    · have hi0 : (0 : Int) ≤ (i : Int) := by omega
      have hi1 : (i : Int) < (nF : Int) := by omega
      have hwi : IntKind.i64.wrap ((i : Int) + 1) = ((i + 1 : Nat) : Int) := by rw [IntWalk.i64_in _ (by omega)]; omega
      obtain ⟨x, hx⟩ : ∃ x, l[i]? = some x := ⟨_, List.getElem?_eq_getElem (by have := hnF0.out; omega)⟩
      obtain ⟨g, off, rfl⟩ := (hr0.out wr K.out.tail.tail).some_ (by have := hnF0.out; omega)
      have s0 : wr.cell? ⟨g, off + i, none⟩ = some (.string x) := by have := (hr0.out wr K.out.tail.tail).cell hx 0 rfl; simpa [Enc.str] using this
      by_cases hlong : 32 < x.size
      · have d1 : decide ((32 : Int) < (x.size : Int)) = true := by rw [decide_eq_true_eq]; omega
        have d2 : decide (32 < x.size) = true := by rw [decide_eq_true_eq]; omega
        have hyes := X1.out (by rw [List.any_eq_true]; exact ⟨x, List.mem_of_getElem? hx, decide_eq_true hlong⟩)
        obtain ⟨rfl, rfl⟩ := hyes
        clear hx hlong
        go_wp2_with fail
        go_ret2
        exact ⟨none, 0, rfl, K.out.tail.tail.ls_nil _ _⟩
      · have d1 : decide ((32 : Int) < (x.size : Int)) = false := by rw [decide_eq_false_iff_not]; omega
        have d2 : decide (32 < x.size) = false := by rw [decide_eq_false_iff_not]; omega
        have hxs : x.size ≤ 32 := by omega
        have hno : Hid ((l.take (i + 1)).any longN = false) := by show _ = _; rw [take_one hx, List.any_append, hany.out, List.any_cons, show longN x = false from decide_eq_false hlong]; rfl
        have hst : Hid ((cur ++ [(x.size : Int) % 256]) ++ bytesOf x = B ++ (l.take (i + 1)).flatMap fileB) := by
          show _ = _
          rw [hcur.out, take_one hx, List.flatMap_append, List.flatMap_cons, List.flatMap_nil, List.append_nil]
          unfold fileB
          rw [put1]
          simp only [List.append_assoc]
        have hstl : Hid (((cur ++ [(x.size : Int) % 256]) ++ bytesOf x).length = m + (1 + x.size)) := by show _ = _; rw [List.length_append, List.length_append, bytesOf_len, hcm.out]; show m + 1 + x.size = _; omega
        have hl1 : Hid ((cur ++ [(x.size : Int) % 256]).length = m + 1) := by show _ = _; rw [List.length_append, hcm.out]; rfl
        have hx0 := Lib.hid hx
        have KQ := Lib.hid K.out
        have SS : Hid (∀ X w', Hs w0 w' (X :: Blk p (.cells #[.int .u64 mn, .int .u64 me, .slice (some ⟨g, off, none⟩) nF cF] 62) :: R) → w'.cell? ⟨p, 2, none⟩ = some (.slice (some ⟨g, off, none⟩) nF cF) ∧ w'.cell? ⟨g, off + i, none⟩ = some (.string x)) := fun X w' h => ⟨h.at1.cellOf 2 rfl, by have := (hr0.out w' h.tail.tail).cell hx0.out 0 rfl; simpa [Enc.str] using this⟩
        clear hx hlong
        go_upto_region 9 with (fail)
        clear q2 s0 K d1 d2
        refine wp_region_left (S := fun w' : World => w'.cell? ⟨p, 2, none⟩ = some (.slice (some ⟨g, off, none⟩) nF cF) ∧ w'.cell? ⟨g, off + i, none⟩ = some (.string x)) 16 mixed ?_
        have hS : (fun w' : World => w'.cell? ⟨p, 2, none⟩ = some (.slice (some ⟨g, off, none⟩) nF cF) ∧ w'.cell? ⟨g, off + i, none⟩ = some (.string x)) wr.drew := by exact SS.out _ _ KQ.out.drew
        refine Left.pure (i := 0) (v := ?v9_0) rfl (by kernel_rfl) (fun _ _ _ h => h) (Or.inr hS) (Or.inl ⟨by kernel_rfl, fun w _ => ?hy9_0⟩) ?rest9_0
        case hy9_0 => (go_simp; try with_reducible rfl)
        try simp only [Act.put, List.setIfInBounds_toArray, List.set_cons_zero, List.set_cons_succ]
        refine Left.pure (i := 1) (v := ?v9_1) rfl (by kernel_rfl) (fun _ _ _ h => h) (Or.inr hS) (Or.inl ⟨by kernel_rfl, fun w _ => ?hy9_1⟩) ?rest9_1
        case hy9_1 => (go_simp; try with_reducible rfl)
        try simp only [Act.put, List.setIfInBounds_toArray, List.set_cons_zero, List.set_cons_succ]
        refine Left.take (i := 2) (v := ?v9_2) rfl (by kernel_rfl) (fun _ _ _ h => h) hS (Or.inl ⟨by kernel_rfl, fun w hSw => ?hy9_2⟩) ?rest9_2
        case hy9_2 => ((try dsimp only at hSw); go_simp; try with_reducible rfl)
        try simp only [Act.put, List.setIfInBounds_toArray, List.set_cons_zero, List.set_cons_succ]
        refine Left.pure (i := 3) (v := ?v9_3) rfl (by kernel_rfl) (fun _ _ _ h => h) (Or.inr hS) (Or.inl ⟨by kernel_rfl, fun w _ => ?hy9_3⟩) ?rest9_3
        case hy9_3 => (go_simp; try with_reducible rfl)
        try simp only [Act.put, List.setIfInBounds_toArray, List.set_cons_zero, List.set_cons_succ]
        refine Left.pure (i := 4) (v := ?v9_4) rfl (by kernel_rfl) (fun _ _ _ h => h) (Or.inr hS) (Or.inl ⟨by kernel_rfl, fun w _ => ?hy9_4⟩) ?rest9_4
        case hy9_4 => (go_simp; try with_reducible rfl)
        try simp only [Act.put, List.setIfInBounds_toArray, List.set_cons_zero, List.set_cons_succ]
        refine Left.take (i := 5) (v := ?v9_5) rfl (by kernel_rfl) (fun _ _ _ h => h) hS (Or.inl ⟨by kernel_rfl, fun w hSw => ?hy9_5⟩) ?rest9_5
        case hy9_5 => ((try dsimp only at hSw); go_simp; try with_reducible rfl)
        try simp only [Act.put, List.setIfInBounds_toArray, List.set_cons_zero, List.set_cons_succ]
        refine Left.pure (i := 6) (v := ?v9_6) rfl (by kernel_rfl) (fun _ _ _ h => h) (Or.inr hS) (Or.inl ⟨by kernel_rfl, fun w _ => ?hy9_6⟩) ?rest9_6
        case hy9_6 => (go_simp; try with_reducible rfl)
        try simp only [Act.put, List.setIfInBounds_toArray, List.set_cons_zero, List.set_cons_succ]
        refine Left.pure (i := 7) (v := ?v9_7) rfl (by kernel_rfl) (fun _ _ _ h => h) (Or.inr hS) (Or.inl ⟨by kernel_rfl, fun w _ => ?hy9_7⟩) ?rest9_7
        case hy9_7 => (go_simp; try with_reducible rfl)
        try simp only [Act.put, List.setIfInBounds_toArray, List.set_cons_zero, List.set_cons_succ]
        refine Left.pure (i := 10) (v := ?v9_10) rfl (by kernel_rfl) (fun _ _ _ h => h) (Or.inr hS) (Or.inl ⟨by kernel_rfl, fun w _ => ?hy9_10⟩) ?rest9_10
        case hy9_10 => (go_simp; try with_reducible rfl)
        try simp only [Act.put, List.setIfInBounds_toArray, List.set_cons_zero, List.set_cons_succ]
        refine Left.take (i := 11) (v := ?v9_11) rfl (by kernel_rfl) (fun _ _ _ h => h) hS (Or.inl ⟨by kernel_rfl, fun w hSw => ?hy9_11⟩) ?rest9_11
        case hy9_11 => ((try dsimp only at hSw); go_simp; try with_reducible rfl)
        try simp only [Act.put, List.setIfInBounds_toArray, List.set_cons_zero, List.set_cons_succ]
        refine Left.pure (i := 12) (v := ?v9_12) rfl (by kernel_rfl) (fun _ _ _ h => h) (Or.inr hS) (Or.inl ⟨by kernel_rfl, fun w _ => ?hy9_12⟩) ?rest9_12
        case hy9_12 => (go_simp; try with_reducible rfl)
        try simp only [Act.put, List.setIfInBounds_toArray, List.set_cons_zero, List.set_cons_succ]
        refine Left.pure (i := 13) (v := ?v9_13) rfl (by kernel_rfl) (fun _ _ _ h => h) (Or.inr hS) (Or.inl ⟨by kernel_rfl, fun w _ => ?hy9_13⟩) ?rest9_13
        case hy9_13 => (go_simp; try with_reducible rfl)
        try simp only [Act.put, List.setIfInBounds_toArray, List.set_cons_zero, List.set_cons_succ]
        refine Left.take (i := 14) (v := ?v9_14) rfl (by kernel_rfl) (fun _ _ _ h => h) hS (Or.inl ⟨by kernel_rfl, fun w hSw => ?hy9_14⟩) ?rest9_14
        case hy9_14 => ((try dsimp only at hSw); go_simp; try with_reducible rfl)
        try simp only [Act.put, List.setIfInBounds_toArray, List.set_cons_zero, List.set_cons_succ]
        refine Left.run (i := 8) rfl (by kernel_rfl) (fun K hK => ?_)
        go_simp
        replace hS : (fun w' : World => w'.cell? ⟨p, 2, none⟩ = some (.slice (some ⟨g, off, none⟩) nF cF) ∧ w'.cell? ⟨g, off + i, none⟩ = some (.string x)) (wr.drew.alloc (.cells #[.int .u8 ((x.size : Int) % 256)] 5)) := by exact SS.out _ _ (KQ.out.drew.alloc_ _)
        refine hK.out _ _ (Or.inr hS) ?_
        clear hK K
        try simp only [Act.put, List.setIfInBounds_toArray, List.set_cons_zero, List.set_cons_succ]
        refine Left.run (i := 9) rfl (by kernel_rfl) (fun K hK => ?_)
        refine step_append_box (E := U8) (v := .slice A3 m c3) (by rfl) (.tmp 35) (.tmp 43) 22 (by rfl) 5 _ 1 1 Try.underlying22 infoB8 rfl (by decide) (by decide) rfl (by rfl) (by rfl) (KQ.out.drew.alloc_ _) ((x.size : Int) % 256) (by exact RdL.boxAt _ (by simp)) (by rw [hcm.out]; omega) ?_
        intro A5 c5 w5 K5
        rw [hcm.out] at K5
        rw [hcm.out]
        replace hS : (fun w' : World => w'.cell? ⟨p, 2, none⟩ = some (.slice (some ⟨g, off, none⟩) nF cF) ∧ w'.cell? ⟨g, off + i, none⟩ = some (.string x)) w5 := by exact SS.out _ _ K5
        refine hK.out _ _ (Or.inr hS) ?_
        clear hK K
        try simp only [Act.put, List.setIfInBounds_toArray, List.set_cons_zero, List.set_cons_succ]
        refine Left.run (i := 15) rfl (by kernel_rfl) (fun K hK => ?_)
        refine step_append_str (v := .slice A5 (m + 1) c5) (m + (1 + x.size)) (by rfl) (.tmp 44) (.tmp 49) 22 9 (by rfl) 5 _ Try.underlying22 Try.underlying9 infoB8 rfl (by rfl) x (by rfl) K5 (by omega) (by rw [hl1.out]; omega) ?_
        intro A6 c6 w6 K6
        replace hS : (fun w' : World => w'.cell? ⟨p, 2, none⟩ = some (.slice (some ⟨g, off, none⟩) nF cF) ∧ w'.cell? ⟨g, off + i, none⟩ = some (.string x)) w6 := by exact SS.out _ _ K6
        refine hK.out _ _ (Or.inr hS) ?_
        clear hK K
        try simp only [Act.put, List.setIfInBounds_toArray, List.set_cons_zero, List.set_cons_succ]
        refine Left.run (i := 16) rfl (by kernel_rfl) (fun K hK => ?_)
        go_simp
        refine hK.out _ _ (Or.inl (by kernel_rfl)) ?_
        clear hK K
        try simp only [Act.put, List.setIfInBounds_toArray, List.set_cons_zero, List.set_cons_succ]
        refine Left.done (by kernel_rfl) ?_ _
        have K7 : Hid (Hs w0 w6 (Ls U8 5 (.slice A6 (m + (1 + x.size)) c6) (B ++ (l.take (i + 1)).flatMap fileB) :: Blk p (.cells #[.int .u64 mn, .int .u64 me, .slice (some ⟨g, off, none⟩) nF cF] 62) :: R)) := by show Hs _ _ _; rw [← hst.out]; exact K6
        have hfl : Hid ((B ++ (l.take (i + 1)).flatMap fileB).length = m + (1 + x.size)) := by show _ = _; rw [← hst.out]; exact hstl.out
        have hmm : m + (1 + x.size) ≤ 18 + (i + 1) * 33 := by omega
        clear K5 K6 SS KQ hst hstl hl1
        go_wp2_with fail
        go_roundg (nF - (i + 1))
        case measure => have := hg.out; omega
        case rel => exact ⟨i + 1, A6, m + (1 + x.size), c6, _, by have := hg.out; omega, by go_num, rfl, hmm, hfl, hno, Lib.hid rfl, K7⟩
    · have hi1 : decide ((i : Int) < (nF : Int)) = false := by rw [decide_eq_false_iff_not]; omega
      have hi2 : decide (i < nF) = false := by rw [decide_eq_false_iff_not]; omega
      have htk : l.take i = l := List.take_of_length_le (by have := hnF0.out; omega)
      rw [htk] at hany hcur
      obtain ⟨rfl, rfl⟩ := X2.out hany.out
      rw [← hman.out] at hcur
      rw [hcur.out] at hcm K
      clear hlt htk
      go_wp2_with fail
      go_ret2
      refine ⟨A3, c3, ?_, ?_⟩
      · rw [hcm.out]; rfl
      · rw [hcm.out]; exact K.out.at1.tail
end Go.Proofs.Ytjdkpogkhecijaa

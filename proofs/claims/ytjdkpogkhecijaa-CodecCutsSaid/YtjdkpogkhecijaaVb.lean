import Derived.Test.YtjdkpogkhecijaaVa
import Derived.Test.YtjdkpogkhecijaaUg
import Derived.Test.YtjdkpogkhecijaaTg
import Derived.Test.YtjdkpogkhecijaaTa
import Derived.Test.YtjdkpogkhecijaaUi
import Derived.IntWalk
import Derived.Test.YtjdkpogkhecijaaProg
import Derived.Test.YtjdkpogkhecijaaLs
import Derived.Outline
import Derived.StillTailTactics
import Derived.Deep.DeepCutAuto
import Derived.Deep.CutBlock
import Derived.Deep.LoopGhost
import Derived.Deep.QuietTactic
import Derived.BigQuiet
import Derived.Deep.RegionHeld3
import Derived.Deep.RegionLaw
set_option linter.unusedVariables false
set_option linter.unusedSimpArgs false
namespace Go.Proofs.Ytjdkpogkhecijaa
open Go.RowKit
set_option maxRecDepth 100000 in
set_option maxHeartbeats 4000000 in
theorem codeccuts_walk (tk of mk : Int) (A1 A2 A3 : Option Addr) (n1 c1 n2 c2 n3 c3 : Nat) (ms : List Int) (ps : List Pn4) (os : List Ot) (mn me : Int) (AF : Option Addr) (nF cF : Nat) (l : List ByteArray) (pl : Int) (W : World) (hm : I64 mk)
    (r1 : RdL (Enc.num .i64) W (.slice A1 n1 c1) ms) (r2 : RdL ((Enc.num .i64).pair (((Enc.num .i64).pair (Enc.num .i64)).pair (Enc.num .i64))) W (.slice A2 n2 c2) ps) (r3 : RdL ((Enc.num .i64).pair ((Enc.num .i64).pair (((Enc.num .i64).pair ((Enc.num .i64).pair (Enc.num .i64))).pair ((Enc.num .i64).pair ((Enc.num .u64).pair Enc.flag))))) W (.slice A3 n3 c3) os) (k1 : ∀ x ∈ ms, I64 x) (k2 : ∀ x ∈ ps, PnOk x) (k3 : ∀ x ∈ os, FrWf x.2)
    (u1 : U64 mn) (u2 : U64 me) (r4 : RdL Enc.str W (.slice AF nF cF) l) (hpl : I64 pl) :
    Calls Try.prog 8 #[.agg #[.int .i64 tk, .int .i64 of, .int .i64 mk, .slice A1 n1 c1, .slice A2 n2 c2, .slice A3 n3 c3], .agg #[.int .u64 mn, .int .u64 me, .slice AF nF cF], .int .i64 pl] W fun e w' => e = .returned (.bool true) ∧ Below W.heap.size W w' := by
  have l4 := r4.caps.1
  have l5 := r4.caps.2
  have K := ((Hs.start W).alloc (.cells #[.int .i64 tk, .int .i64 of, .int .i64 mk, .slice A1 n1 c1, .slice A2 n2 c2, .slice A3 n3 c3] 55)).alloc (.cells #[.int .u64 mn, .int .u64 me, .slice AF nF cF] 62)
  rw [show (W.alloc (.cells #[.int .i64 tk, .int .i64 of, .int .i64 mk, .slice A1 n1 c1, .slice A2 n2 c2, .slice A3 n3 c3] 55)).heap.size = W.heap.size + 1 from Array.size_push ..] at K
  have X := fun h => sn_ok (s := (tk, of, mk, ms, ps, os)) h hm k1 k2 k3
  have T1 := fun w w0 R H h1 h2 h3 => snap27 tk of mk A1 A2 A3 n1 c1 n2 c2 n3 c3 ms ps os w w0 R H h1 h2 h3 (fun x hx => (k3 x hx).2.2)
  have hE := snErr_or (tk, of, mk, ms, ps, os)
  have T3 : snErr (tk, of, mk, ms, ps, os) = 0 → (12 ≤ (snOut (tk, of, mk, ms, ps, os)).length ∧ (snOut (tk, of, mk, ms, ps, os)).length ≤ 900000) ∧ Byt (snOut (tk, of, mk, ms, ps, os)) ∧ (∀ k v w w0 R, k < (snOut (tk, of, mk, ms, ps, os)).length → Hs w0 w R → (∀ w', Hs w0 w' R → RdL U8 w' v ((snOut (tk, of, mk, ms, ps, os)).take k)) → Calls Try.prog 34 #[v] w (SP w0 R (zeroS, 10))) ∧ (∀ v w w0 R, Hs w0 w R → (∀ w', Hs w0 w' R → RdL U8 w' v (snOut (tk, of, mk, ms, ps, os) ++ [0])) → Calls Try.prog 34 #[v] w (SP w0 R (zeroS, 10))) := fun h => by
    obtain ⟨x1, x2, x3⟩ := X h
    rw [x3]
    refine ⟨snB_len x2, snB_byt _, fun k v w w0 R hk H hr => ?_, fun v w w0 R H hr => ?_⟩
    · have := openS34 v ((snB (tk, of, mk, ms, ps, os)).take k) w w0 R H hr ((snB_byt _).take k)
      rw [opN_cut x1 hk] at this
      exact this
    · have := openS34 v (snB (tk, of, mk, ms, ps, os) ++ [0]) w w0 R H hr ((snB_byt _).append (fun x hx => by rw [List.mem_singleton] at hx; subst hx; omega))
      rw [opN_more x1] at this
      exact this
  obtain ⟨L, hL⟩ : ∃ L, snOut (tk, of, mk, ms, ps, os) = L := ⟨_, rfl⟩
  obtain ⟨er, hEr⟩ : ∃ er, snErr (tk, of, mk, ms, ps, os) = er := ⟨_, rfl⟩
  rw [hL, hEr] at T1 T3
  rw [hEr] at hE
  have M1 := fun w w0 R H hr hl => manifest29 mn me u1 u2 AF nF cF l w w0 R H hr hl
  have hF := merr_or l
  have M3 : merr l = 0 → nF ≤ 100 → (18 ≤ (mout mn me l).length ∧ (mout mn me l).length ≤ 5000) ∧ Byt (mout mn me l) ∧ (∀ k v w w0 R, k < (mout mn me l).length → Hs w0 w R → (∀ w', Hs w0 w' R → RdL U8 w' v ((mout mn me l).take k)) → Calls Try.prog 31 #[v] w (MP w0 R (zeroM, 10))) ∧ (∀ v w w0 R, Hs w0 w R → (∀ w', Hs w0 w' R → RdL U8 w' v (mout mn me l ++ [0])) → Calls Try.prog 31 #[v] w (MP w0 R (zeroM, 10))) := fun h hn => by
    obtain ⟨x1, x2, x3, x4⟩ := man_ok u1 u2 h
    have hB : Byt (mout mn me l) := mout_byt _ _ _
    rw [x2] at hB ⊢
    refine ⟨⟨x3, x4 (by omega)⟩, hB, fun k v w w0 R hk H hr => ?_, fun v w w0 R H hr => ?_⟩
    · have := openM31 v ((mnB (mn, me, l)).take k) w w0 R H hr (hB.take k)
      rw [opM_cut x1 hk] at this
      exact this
    · have := openM31 v (mnB (mn, me, l) ++ [0]) w w0 R H hr (hB.append (fun x hx => by rw [List.mem_singleton] at hx; subst hx; omega))
      rw [opM_more x1] at this
      exact this
  obtain ⟨M, hM⟩ : ∃ L, mout mn me l = L := ⟨_, rfl⟩
  obtain ⟨fr, hFr⟩ : ∃ er, merr l = er := ⟨_, rfl⟩
  rw [hM, hFr] at M1 M3
  rw [hFr] at hF
  have r10 := Lib.hid r1
  have r20 := Lib.hid r2
  have r30 := Lib.hid r3
  have r40 := Lib.hid r4
  replace T1 := Lib.hid T1
  replace T3 := Lib.hid T3
  replace M1 := Lib.hid M1
  replace M3 := Lib.hid M3
  replace l4 := Lib.hid l4
  replace K := Lib.hid K
  have hl1 : -9223372036854775808 ≤ pl ∧ pl ≤ 9223372036854775807 := hpl
  have T18 : Hid (∀ n : Nat, 0 < n → n ≤ 1000000 → ∃ p : Nat, p < n ∧ ∀ w, Calls Try.prog 18 #[.int .i64 pl, .int .i64 n] w fun e w' => e = .returned (.int .i64 p) ∧ w = w') := fun n hn hn2 => by
    have m0 := Int.emod_nonneg pl (show (n : Int) ≠ 0 by omega)
    have m1 := Int.emod_lt_of_pos pl (show 0 < (n : Int) by omega)
    have T := fun w => place18 pl n w (by omega) (by omega)
    obtain ⟨p, hp⟩ := Int.eq_ofNat_of_zero_le m0
    rw [hp] at m1 T
    exact ⟨p, by omega, T⟩
  obtain ⟨nl, hnl⟩ : ∃ n, L.length = n := ⟨_, rfl⟩
  rw [hnl] at T3
  replace hnl := Lib.hid hnl
  obtain ⟨nm, hnm⟩ : ∃ n, M.length = n := ⟨_, rfl⟩
  rw [hnm] at M3
  replace hnm := Lib.hid hnm
  have hEb : er = 0 ∨ (er == 0) = false ∧ (er != 0) = true := by
    rcases hE with h | h
    · exact .inl h
    · exact .inr ⟨by rw [beq_eq_false_iff_ne]; exact h.1, by rw [bne_iff_ne]; exact h.1⟩
  have hFb : fr = 0 ∨ (fr == 0) = false ∧ (fr != 0) = true := by
    rcases hF with h | h
    · exact .inl h
    · exact .inr ⟨by rw [beq_eq_false_iff_ne]; exact h.1, by rw [bne_iff_ne]; exact h.1⟩
  clear r1 r2 r3 r4 k1 k2 k3 X hL hEr hm hE hF hM hFr u1 u2 hpl hl1
  go_enter Try.func8, Try.ntmps8
  go_upto_region 1 with (fail)
  generalize World.alloc _ _ = w1 at K ⊢
  generalize W.heap.size + 1 = q at K ⊢
  generalize W.heap.size = p at K ⊢
  go_wp2_with fail
  refine (known10 w1 W _ K.out).mono ?_
  rintro e w2 ⟨rfl, K2⟩
  replace K2 := Lib.hid K2
  clear K
  have p0_ : w2.cell? ⟨p, 0, none⟩ = some (.int .i64 tk) := K2.out.at1.cellOf 0 rfl
  have p1_ : w2.cell? ⟨p, 1, none⟩ = some (.int .i64 of) := K2.out.at1.cellOf 1 rfl
  have p2_ : w2.cell? ⟨p, 2, none⟩ = some (.int .i64 mk) := K2.out.at1.cellOf 2 rfl
  have p3_ : w2.cell? ⟨p, 3, none⟩ = some (.slice A1 n1 c1) := K2.out.at1.cellOf 3 rfl
  have p4_ : w2.cell? ⟨p, 4, none⟩ = some (.slice A2 n2 c2) := K2.out.at1.cellOf 4 rfl
  have p5_ : w2.cell? ⟨p, 5, none⟩ = some (.slice A3 n3 c3) := K2.out.at1.cellOf 5 rfl
  go_wp2_with fail
  refine (light25 tk of mk A1 A2 A3 n1 c1 n2 c2 n3 c3 w2 W _ K2.out).mono ?_
  rintro e w3 ⟨lt, rfl, K3⟩
  have q2_ : w3.cell? ⟨q, 2, none⟩ = some (.slice AF nF cF) := K3.cellOf 2 rfl
  replace K3 := Lib.hid K3
  clear K2 p0_ p1_ p2_ p3_ p4_ p5_
  have p0_ : w3.cell? ⟨p, 0, none⟩ = some (.int .i64 tk) := K3.out.at1.cellOf 0 rfl
  have p1_ : w3.cell? ⟨p, 1, none⟩ = some (.int .i64 of) := K3.out.at1.cellOf 1 rfl
  have p2_ : w3.cell? ⟨p, 2, none⟩ = some (.int .i64 mk) := K3.out.at1.cellOf 2 rfl
  have p3_ : w3.cell? ⟨p, 3, none⟩ = some (.slice A1 n1 c1) := K3.out.at1.cellOf 3 rfl
  have p4_ : w3.cell? ⟨p, 4, none⟩ = some (.slice A2 n2 c2) := K3.out.at1.cellOf 4 rfl
  have p5_ : w3.cell? ⟨p, 5, none⟩ = some (.slice A3 n3 c3) := K3.out.at1.cellOf 5 rfl
  cases lt with
  | false =>
    clear T1 T3 hEb hFb M1 M3
    go_wp2_with fail
    go_ret
    exact ⟨rfl, K3.out.tail.tail.under_old⟩
  | true =>
    by_cases h100 : 100 < nF
    · have e1 : decide ((100 : Int) < (nF : Int)) = true := by rw [decide_eq_true_eq]; omega
      have e2 : decide (100 < nF) = true := by rw [decide_eq_true_eq]; omega
      clear T1 T3 hEb hFb M1 M3
      go_wp2_with fail
      go_ret
      exact ⟨rfl, K3.out.tail.tail.under_old⟩
    have e1 : decide ((100 : Int) < (nF : Int)) = false := by rw [decide_eq_false_iff_not]; omega
    have e2 : decide (100 < nF) = false := by rw [decide_eq_false_iff_not]; omega
    have hll0 : Hid (l.length ≤ 1000000000) := by show _ ≤ _; have := l4.out; omega
    have hnF100 : nF ≤ 100 := by omega
    go_wp2_with fail
    refine (T1.out w3 W _ K3.out (fun w' h => r10.out.old h.tail.tail) (fun w' h => r20.out.old h.tail.tail) (fun w' h => r30.out.old h.tail.tail)).mono ?_
    rintro e w4 ⟨A4, c4, rfl, K4⟩
    rw [hnl.out] at K4 ⊢
    replace K4 := Lib.hid K4
    clear K3 T1 q2_ e1 e2 p0_ p1_ p2_ p3_ p4_ p5_
    rcases hEb with rfl | ⟨e1, e2⟩
    · obtain ⟨⟨y1, y2⟩, y3, y4, y5⟩ := T3.out rfl
      obtain ⟨p', hp1, hp2⟩ := T18.out nl (by omega) (by omega)
      have hmc := K4.out.ls_rd.caps.2
      have ct := cut_take Try.prog 22 5 1 Try.underlying22 (by kernel_rfl) A4 nl c4 p' (by omega)
      have y40 := Lib.hid (y4 p')
      replace y4 := Lib.hid y4
      replace y5 := Lib.hid y5
      replace hp2 := Lib.hid hp2
      clear T3
      go_wp2_with fail
      refine (hp2.out w4).mono ?_
      rintro e w4' ⟨rfl, rfl⟩
      go_wp2_with fail
      refine (y40.out (.slice A4 p' c4) w4 W _ hp1 K4.out (fun w' h => h.ls_rd.take p' (by omega))).mono ?_
      rintro e w5 ⟨B1, d1, B2, d2, B3, d3, rfl, K5⟩
      dsimp only [zeroS, List.length_nil] at K5 ⊢
      have K6 := Lib.hid (K5.tail.tail.tail.alloc (.cells #[.int .i64 0, .int .i64 0, .int .i64 0, .slice B1 0 d1, .slice B2 0 d2, .slice B3 0 d3] 55)).tail
      clear K4 K5 hp2 ct y40 y4
      go_upto_region 8 with (fail)
      generalize World.alloc w5 _ = w6 at K6 ⊢
      go_wp2_with fail
      refine (copy17 (.slice A4 nl c4) L w6 W _ K6.out K6.out.ls_rd (by rw [hnl.out]; omega)).mono ?_
      rintro e w7 ⟨A5, c5, rfl, K7⟩
      rw [hnl.out] at K7 ⊢
      replace K7 := Lib.hid K7
      clear K6
      go_wp2_with (at_builtin; refine wpList_append1N (E := U8) nl hnl.out rfl (.tmp 48) (.tmp 49) 22 rfl 5 _ 1 1 Try.underlying22 infoB8 rfl (by decide) (by decide) rfl rfl rfl (by simp) K7.out 0 (by omega) ?_)
      intro A9 c9 w8 K8
      replace K8 := Lib.hid K8
      clear K7
      go_wp2_with fail
      refine (y5.out (.slice A9 (nl + 1) c9) w8 W _ K8.out (fun w' h => h.ls_rd)).mono ?_
      rintro e w9 ⟨D1, f1, D2, f2, D3, f3, rfl, K9⟩
      dsimp only [zeroS, List.length_nil] at K9 ⊢
      have Ka := Lib.hid (K9.tail.tail.tail.alloc (.cells #[.int .i64 0, .int .i64 0, .int .i64 0, .slice D1 0 f1, .slice D2 0 f2, .slice D3 0 f3] 55)).tail
      clear K8 K9 y5
      go_upto_region 9 with (fail)
      generalize World.alloc w9 _ = wa at Ka ⊢
      have Kb : Hid (Hs W wa (Blk q (.cells #[.int .u64 mn, .int .u64 me, .slice AF nF cF] 62) :: [Blk p (.cells #[.int .i64 tk, .int .i64 of, .int .i64 mk, .slice A1 n1 c1, .slice A2 n2 c2, .slice A3 n3 c3] 55), Old W])) := Ka.out.tail.tail
      clear Ka
      have q0_ : wa.cell? ⟨q, 0, none⟩ = some (.int .u64 mn) := Kb.out.cellOf 0 rfl
      have q1_ : wa.cell? ⟨q, 1, none⟩ = some (.int .u64 me) := Kb.out.cellOf 1 rfl
      have q2_ : wa.cell? ⟨q, 2, none⟩ = some (.slice AF nF cF) := Kb.out.cellOf 2 rfl
      go_wp2_with fail
      refine (M1.out wa W _ Kb.out (fun w' h => r40.out.old h.tail.tail) hll0.out).mono ?_
      rintro e x4 ⟨A6, c6, rfl, J4⟩
      rw [hnm.out] at J4 ⊢
      replace J4 := Lib.hid J4
      clear Kb M1 q0_ q1_ q2_
      rcases hFb with rfl | ⟨e1, e2⟩
      · obtain ⟨⟨y1, y2⟩, y3, y4, y5⟩ := M3.out rfl hnF100
        obtain ⟨p', hp1, hp2⟩ := T18.out nm (by omega) (by omega)
        have hmc := J4.out.ls_rd.caps.2
        have ct := cut_take Try.prog 22 5 1 Try.underlying22 (by kernel_rfl) A6 nm c6 p' (by omega)
        have y40 := Lib.hid (y4 p')
        replace y4 := Lib.hid y4
        replace y5 := Lib.hid y5
        replace hp2 := Lib.hid hp2
        clear M3 T18
        go_wp2_with fail
        refine (hp2.out x4).mono ?_
        rintro e x4' ⟨rfl, rfl⟩
        go_wp2_with fail
        refine (y40.out (.slice A6 p' c6) x4 W _ hp1 J4.out (fun w' h => h.ls_rd.take p' (by omega))).mono ?_
        rintro e x5 ⟨A7, c7, rfl, J5⟩
        dsimp only [zeroM, List.length_nil] at J5 ⊢
        have J6 := Lib.hid (J5.tail.alloc (.cells #[.int .u64 0, .int .u64 0, .slice A7 0 c7] 62)).tail
        clear J4 J5 hp2 ct y40 y4
        go_upto_region 14 with (fail)
        generalize World.alloc x5 _ = x6 at J6 ⊢
        go_wp2_with fail
        refine (copy17 (.slice A6 nm c6) M x6 W _ J6.out J6.out.ls_rd (by rw [hnm.out]; omega)).mono ?_
        rintro e x7 ⟨A8, c8, rfl, J7⟩
        rw [hnm.out] at J7 ⊢
        replace J7 := Lib.hid J7
        clear J6
        go_wp2_with (at_builtin; refine wpList_append1N (E := U8) nm hnm.out rfl (.tmp 79) (.tmp 80) 22 rfl 5 _ 1 1 Try.underlying22 infoB8 rfl (by decide) (by decide) rfl rfl rfl (by simp) J7.out 0 (by omega) ?_)
        intro A9 c9 x8 J8
        replace J8 := Lib.hid J8
        clear J7
        have hm1 : (M ++ [0]).length = nm + 1 := by rw [List.length_append, hnm.out]; rfl
        go_wp2_with fail
        refine (y5.out (.slice A9 (nm + 1) c9) x8 W _ J8.out (fun w' h => h.ls_rd)).mono ?_
        rintro e x9 ⟨Aa, ca, rfl, J9⟩
        dsimp only [zeroM, List.length_nil] at J9 ⊢
        have Ja := Lib.hid (J9.tail.alloc (.cells #[.int .u64 0, .int .u64 0, .slice Aa 0 ca] 62)).tail
        clear J8 J9 y5
        go_upto_region 15 with (fail)
        generalize World.alloc x9 _ = xa at Ja ⊢
        go_wp2_with fail
        go_ret
        exact ⟨rfl, Ja.out.tail.tail.tail.tail.under_old⟩
      · clear M3 T18
        go_wp2_with fail
        go_ret
        exact ⟨rfl, J4.out.tail.tail.tail.under_old⟩
    · have Kb : Hid (Hs W w4 (Blk q (.cells #[.int .u64 mn, .int .u64 me, .slice AF nF cF] 62) :: [Blk p (.cells #[.int .i64 tk, .int .i64 of, .int .i64 mk, .slice A1 n1 c1, .slice A2 n2 c2, .slice A3 n3 c3] 55), Old W])) := K4.out.tail
      clear T3 K4
      have q0_ : w4.cell? ⟨q, 0, none⟩ = some (.int .u64 mn) := Kb.out.cellOf 0 rfl
      have q1_ : w4.cell? ⟨q, 1, none⟩ = some (.int .u64 me) := Kb.out.cellOf 1 rfl
      have q2_ : w4.cell? ⟨q, 2, none⟩ = some (.slice AF nF cF) := Kb.out.cellOf 2 rfl
      go_wp2_with fail
      refine (M1.out w4 W _ Kb.out (fun w' h => r40.out.old h.tail.tail) hll0.out).mono ?_
      rintro e x4 ⟨A6, c6, rfl, J4⟩
      rw [hnm.out] at J4 ⊢
      replace J4 := Lib.hid J4
      clear Kb M1 q0_ q1_ q2_
      rcases hFb with rfl | ⟨e1, e2⟩
      · obtain ⟨⟨y1, y2⟩, y3, y4, y5⟩ := M3.out rfl hnF100
        obtain ⟨p', hp1, hp2⟩ := T18.out nm (by omega) (by omega)
        have hmc := J4.out.ls_rd.caps.2
        have ct := cut_take Try.prog 22 5 1 Try.underlying22 (by kernel_rfl) A6 nm c6 p' (by omega)
        have y40 := Lib.hid (y4 p')
        replace y4 := Lib.hid y4
        replace y5 := Lib.hid y5
        replace hp2 := Lib.hid hp2
        clear M3 T18
        go_wp2_with fail
        refine (hp2.out x4).mono ?_
        rintro e x4' ⟨rfl, rfl⟩
        go_wp2_with fail
        refine (y40.out (.slice A6 p' c6) x4 W _ hp1 J4.out (fun w' h => h.ls_rd.take p' (by omega))).mono ?_
        rintro e x5 ⟨A7, c7, rfl, J5⟩
        dsimp only [zeroM, List.length_nil] at J5 ⊢
        have J6 := Lib.hid (J5.tail.alloc (.cells #[.int .u64 0, .int .u64 0, .slice A7 0 c7] 62)).tail
        clear J4 J5 hp2 ct y40 y4
        go_upto_region 14 with (fail)
        generalize World.alloc x5 _ = x6 at J6 ⊢
        go_wp2_with fail
        refine (copy17 (.slice A6 nm c6) M x6 W _ J6.out J6.out.ls_rd (by rw [hnm.out]; omega)).mono ?_
        rintro e x7 ⟨A8, c8, rfl, J7⟩
        rw [hnm.out] at J7 ⊢
        replace J7 := Lib.hid J7
        clear J6
        go_wp2_with (at_builtin; refine wpList_append1N (E := U8) nm hnm.out rfl (.tmp 79) (.tmp 80) 22 rfl 5 _ 1 1 Try.underlying22 infoB8 rfl (by decide) (by decide) rfl rfl rfl (by simp) J7.out 0 (by omega) ?_)
        intro A9 c9 x8 J8
        replace J8 := Lib.hid J8
        clear J7
        have hm1 : (M ++ [0]).length = nm + 1 := by rw [List.length_append, hnm.out]; rfl
        go_wp2_with fail
        refine (y5.out (.slice A9 (nm + 1) c9) x8 W _ J8.out (fun w' h => h.ls_rd)).mono ?_
        rintro e x9 ⟨Aa, ca, rfl, J9⟩
        dsimp only [zeroM, List.length_nil] at J9 ⊢
        have Ja := Lib.hid (J9.tail.alloc (.cells #[.int .u64 0, .int .u64 0, .slice Aa 0 ca] 62)).tail
        clear J8 J9 y5
        go_upto_region 15 with (fail)
        generalize World.alloc x9 _ = xa at Ja ⊢
        go_wp2_with fail
        go_ret
        exact ⟨rfl, Ja.out.tail.tail.tail.tail.under_old⟩
      · clear M3 T18
        go_wp2_with fail
        go_ret
        exact ⟨rfl, J4.out.tail.tail.tail.under_old⟩
def manc2 (r : Int × Int × Slc) : Array Value := #[.int .u64 r.1, .int .u64 r.2.1, .slice r.2.2.1 r.2.2.2.1 r.2.2.2.2]
theorem codeccuts_walk2 (r : Int × Int × Int × Slc × Slc × Slc) (m : Int × Int × Slc) (pl : Int) (W : World) (h : SnapIs W r) (g : U64 m.1 ∧ U64 m.2.1 ∧ ∃ l, RdL Enc.str W (.slice m.2.2.1 m.2.2.2.1 m.2.2.2.2) l ∧ ∀ x ∈ l, x.size ≤ 140737488351232) (hpl : (Lit.int .i64 pl).wf = true) :
    Calls Try.prog 8 #[.agg (snc r), .agg (manc2 m), .int .i64 pl] W fun e w' => e = .returned (.bool true) ∧ Below W.heap.size W w' := by
  obtain ⟨hm, ⟨ms, r1, k1⟩, ⟨ps, r2, k2⟩, ⟨os, r3, k3⟩⟩ := h
  obtain ⟨u1, u2, l, r4, _⟩ := g
  exact codeccuts_walk _ _ _ _ _ _ _ _ _ _ _ _ ms ps os _ _ _ _ _ l pl W hm r1 r2 r3 k1 k2 k3 u1 u2 r4 (i64_of2 hpl)
end Go.Proofs.Ytjdkpogkhecijaa

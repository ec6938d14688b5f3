import Derived.Test.YtjdkpogkhecijaaSp
import Derived.Test.YtjdkpogkhecijaaLf
import Derived.IntWalk
import Derived.Test.YtjdkpogkhecijaaProg
import Derived.Test.YtjdkpogkhecijaaLs
import Derived.Outline
import Derived.StillTailTactics
import Derived.Deep.DeepCutAuto
import Derived.Deep.CutBlock
import Derived.Deep.LoopGhost
import Derived.Deep.QuietTactic
import Derived.BigQuiet
import Derived.Deep.RegionHeld3
import Derived.Deep.RegionLaw
set_option linter.unusedVariables false
set_option linter.unusedSimpArgs false
namespace Go.Proofs.Ytjdkpogkhecijaa
open Go.RowKit
theorem u8_of {x : Int} (h : (Lit.int .u8 x).wf = true) : 0 ≤ x ∧ x < 256 := by
  simp [Lit.wf, IntKind.min, IntKind.max, IntKind.signed, IntKind.bits] at h
  omega
set_option maxRecDepth 100000 in
set_option maxHeartbeats 4000000 in
theorem codecseals_walk (A : Option Addr) (n c : Nat) (bs : List Int) (A2 : Option Addr) (n2 c2 : Nat) (ms : List Int) (pl bt : Int) (W : World) (hr : RdL U8 W (.slice A n c) bs) (hb : ∀ x ∈ bs, (Lit.int .u8 x).wf = true) (hr2 : RdL U8 W (.slice A2 n2 c2) ms) (hb2 : ∀ x ∈ ms, (Lit.int .u8 x).wf = true) (hpl : (Lit.int .i64 pl).wf = true) (hbt : (Lit.int .u8 bt).wf = true) :
    Calls Try.prog 3 #[.slice A n c, .slice A2 n2 c2, .int .i64 pl, .int .u8 bt] W fun e w' => e = .returned (.bool true) ∧ Below W.heap.size W w' := by
  have hn := hr.caps
  have hn2 := hr2.caps
  have B := byt_ok hb
  have B2 := byt_ok hb2
  have hbt2 := u8_of hbt
  obtain ⟨hn, hc1, hc2⟩ := hn
  obtain ⟨hn2, hd1, hd2⟩ := hn2
  have hr0 := Lib.hid hr
  have hr02 := Lib.hid hr2
  have K := Lib.hid (Hs.start W)
  clear hr hr2 hb hb2 hpl hbt
  by_cases h5 : 5000 < n
  · have e1 : decide ((5000 : Int) < (n : Int)) = true := by rw [decide_eq_true_eq]; omega
    have e2 : decide (5000 < n) = true := by rw [decide_eq_true_eq]; omega
    clear hn hn2 B B2
    go_enter Try.func3, Try.ntmps3
    go_wp2_with fail
    refine (known10 W W _ K.out).mono ?_
    rintro e w2 ⟨rfl, K2⟩
    replace K2 := Lib.hid K2
    go_wp2_with fail
    go_ret
    exact ⟨rfl, K2.out.under_old⟩
  by_cases h2 : 2000 < n2
  · have e1 : decide ((5000 : Int) < (n : Int)) = false := by rw [decide_eq_false_iff_not]; omega
    have e2 : decide (5000 < n) = false := by rw [decide_eq_false_iff_not]; omega
    have e3 : decide ((2000 : Int) < (n2 : Int)) = true := by rw [decide_eq_true_eq]; omega
    have e4 : decide (2000 < n2) = true := by rw [decide_eq_true_eq]; omega
    clear hn hn2 B B2
    go_enter Try.func3, Try.ntmps3
    go_wp2_with fail
    refine (known10 W W _ K.out).mono ?_
    rintro e w2 ⟨rfl, K2⟩
    replace K2 := Lib.hid K2
    go_wp2_with fail
    go_ret
    exact ⟨rfl, K2.out.under_old⟩
  have e1 : decide ((5000 : Int) < (n : Int)) = false := by rw [decide_eq_false_iff_not]; omega
  have e2 : decide (5000 < n) = false := by rw [decide_eq_false_iff_not]; omega
  have e3 : decide ((2000 : Int) < (n2 : Int)) = false := by rw [decide_eq_false_iff_not]; omega
  have e4 : decide (2000 < n2) = false := by rw [decide_eq_false_iff_not]; omega
  have hnb : bs.length ≤ 5000 := by omega
  have hn5 : n ≤ 5000 := by omega
  have hm2 : n2 ≤ 2000 := by omega
  -- the plain facts
  have P1 : Hid (∀ t, opS (sealB bs ++ t) = (bs, 8 + (bs.length : Int), 0)) := fun t => opS_seal bs t B (by omega)
  have P2 : Hid (∀ k, k < 8 + bs.length → opS ((sealB bs).take k) = ([], 0, 11)) := fun k hk => opS_cut bs k hk (by omega)
  have P3 : Hid (∀ k x y, 4 ≤ k → (sealB bs)[k]? = some x → 0 ≤ y ∧ y < 256 → y ≠ x → opS ((sealB bs).set k y) = ([], 0, 11)) := fun k x y h1 h2 h3 h4 => opS_bent bs B k x y h1 h2 h3 h4 (by omega)
  have BS := sealB_byt B
  have hSl := sealB_len bs
  have T11 : Hid (∀ v w w0 R, Hs w0 w R → (∀ w', Hs w0 w' R → RdL U8 w' v bs) → Calls Try.prog 11 #[v] w fun e w' => ∃ A c, e = .returned (.slice A (8 + bs.length) c) ∧ Hs w0 w' (Ls U8 5 (.slice A (8 + bs.length) c) (sealB bs) :: R)) := fun v w w0 R h hr => seal11 v bs w w0 R h hr B (by omega)
  have T13 : Hid (∀ v w w0 R, Hs w0 w R → (∀ w', Hs w0 w' R → RdL U8 w' v bs) → Calls Try.prog 13 #[v] w fun e w' => ∃ A c, e = .returned (.slice A (8 + bs.length) c) ∧ Hs w0 w' (Ls U8 5 (.slice A (8 + bs.length) c) (sealB bs) :: R)) := fun v w w0 R h hr => rseal13 v bs w w0 R h hr B (by omega)
  obtain ⟨S, hS⟩ : ∃ S, sealB bs = S := ⟨_, rfl⟩
  rw [hS] at P1 P2 P3 BS hSl T11 T13
  rw [← hn] at P1 P2 hSl T11 T13
  obtain ⟨N, hN⟩ : ∃ N, 8 + n = N := ⟨_, rfl⟩
  rw [hN] at P2 hSl T11 T13
  have hNi : 8 + (n : Int) = (N : Int) := by omega
  rw [hNi] at P1
  have hN8 : 8 ≤ N := by omega
  have hN5 : N ≤ 5008 := by omega
  replace hSl := Lib.hid hSl
  replace hn := Lib.hid hn
  replace hn2 := Lib.hid hn2
  have hBS := Lib.hid BS
  have hB := Lib.hid B
  have hB2 := Lib.hid B2
  clear hNi hN hS BS B B2 h5 h2 hnb
  have m0 := Int.emod_nonneg pl (show (N : Int) ≠ 0 by omega)
  have m1 := Int.emod_lt_of_pos pl (show 0 < (N : Int) by omega)
  have m2 := Int.emod_nonneg pl (show (N : Int) - 4 ≠ 0 by omega)
  have m3 := Int.emod_lt_of_pos pl (show 0 < (N : Int) - 4 by omega)
  have T18a : Hid (∀ w, Calls Try.prog 18 #[.int .i64 pl, .int .i64 N] w fun e w' => e = .returned (.int .i64 (pl % (N : Int))) ∧ w = w') := fun w => place18 pl N w (by omega) (by omega)
  have T18b : Hid (∀ w, Calls Try.prog 18 #[.int .i64 pl, .int .i64 ((N : Int) - 4)] w fun e w' => e = .returned (.int .i64 (pl % ((N : Int) - 4))) ∧ w = w') := fun w => place18 pl ((N : Int) - 4) w (by omega) (by omega)
  obtain ⟨p, hp⟩ := Int.eq_ofNat_of_zero_le m0
  obtain ⟨q, hq⟩ := Int.eq_ofNat_of_zero_le m2
  rw [hp] at m1 T18a
  rw [hq] at m3 T18b
  clear hp hq m0 m2
  have hpN : p < N := by omega
  have hqN : q + 4 < N := by omega
  have Q2 := Lib.hid (P2.out p hpN)
  obtain ⟨x, hx⟩ : ∃ x, S[4 + q]? = some x := ⟨_, List.getElem?_eq_getElem (by rw [hSl.out]; omega)⟩
  have hx2 := hBS.out x (List.mem_of_getElem? hx)
  obtain ⟨xn, rfl⟩ := Int.eq_ofNat_of_zero_le hx2.1
  have hxn : xn < 256 := by omega
  replace hx := Lib.hid hx
  obtain ⟨bn, rfl⟩ := Int.eq_ofNat_of_zero_le hbt2.1
  have hbn : bn < 256 := by omega
  clear hx2 hbt2 P2
  have a1 : bits .and .u8 (bn : Int) 7 = ((bn % 8 : Nat) : Int) := by have := u8_and_nat bn 7 hbn (by omega); rw [nat_mask3] at this; exact this
  obtain ⟨j, hj⟩ : ∃ j, bn % 8 = j := ⟨_, rfl⟩
  rw [hj] at a1
  have hj8 : j < 8 := by omega
  clear hj
  go_enter Try.func3, Try.ntmps3
  go_wp2_with fail
  refine (known10 W W _ K.out).mono ?_
  rintro e w2 ⟨rfl, K2⟩
  replace K2 := Lib.hid K2
  clear K
  go_wp2_with fail
  refine (T11.out (.slice A n c) w2 W _ K2.out (fun w' h => hr0.out.old h)).mono ?_
  rintro e w3 ⟨A3, c3, rfl, K3⟩
  have hc3 := K3.ls_rd.caps.2
  replace K3 := Lib.hid K3
  clear K2 e1 e2 e3 e4
  go_wp2_with fail
  refine (T13.out (.slice A n c) w3 W _ K3.out (fun w' h => hr0.out.old h.at1)).mono ?_
  rintro e w4 ⟨A4, c4, rfl, K4⟩
  replace K4 := Lib.hid K4
  clear K3
  go_wp2_with fail
  refine (eqsame12 _ _ S w4 W _ K4.out K4.out.at1.ls_rd K4.out.ls_rd).mono ?_
  rintro e w5 ⟨rfl, K5⟩
  replace K5 := Lib.hid K5.tail
  clear K4
  go_wp2_with fail
  refine (sum14 (.slice A n c) bs w5 W _ K5.out (fun w' h => hr0.out.old h.at1) hB.out (by have := hn.out; omega)).mono ?_
  rintro e w6 ⟨rfl, K6⟩
  replace K6 := Lib.hid K6
  clear K5
  generalize hcr : crc bs = cr
  replace hcr := Lib.hid hcr
  go_wp2_with fail
  refine (sum15 (.slice A n c) bs w6 (hr0.out.old K6.out.at1) hB.out (by have := hn.out; omega)).mono ?_
  rintro e w6' ⟨rfl, rfl⟩
  rw [hcr.out]
  go_wp2_with fail
  refine (copy17 (.slice A3 N c3) S w6 W _ K6.out K6.out.ls_rd (by rw [hSl.out]; omega)).mono ?_
  rintro e w7 ⟨A7, c7, rfl, K7⟩
  rw [hSl.out] at K7 ⊢
  replace K7 := Lib.hid K7
  clear K6
  go_wp2_with (at_builtin; refine wpList_appendN (N + n2) rfl (.tmp 46) (.tmp 47) 22 rfl 5 _ 1 1 Try.underlying22 infoB8 rfl (by decide) (by decide) rfl rfl _ rfl K7.out (hr02.out.old K7.out.at2) (by omega) (by rw [hSl.out, hn2.out]) ?_)
  intro A8 c8 w8 K8
  replace K8 := Lib.hid K8
  clear K7
  have T16 : Hid (∀ v w R, Hs W w R → (∀ w', Hs W w' R → RdL U8 w' v (S ++ ms)) → Calls Try.prog 16 #[v] w fun e w' => ∃ A c, e = .returned (.tuple #[.slice A n c, .int .i64 N, .int .i64 0]) ∧ Hs W w' (Ls U8 5 (.slice A n c) bs :: R)) := fun v w R h hr => by
    have := open16 v (S ++ ms) w W R h hr (hBS.out.append hB2.out) (by rw [List.length_append, hSl.out, ← hn2.out]; omega)
    rw [P1.out ms] at this
    refine this.mono ?_
    rintro e w' ⟨A, c, rfl, K⟩
    dsimp only at K ⊢
    rw [← hn.out] at K ⊢
    exact ⟨A, c, rfl, K⟩
  go_wp2_with fail
  refine (T16.out _ w8 _ K8.out (fun w' h => h.ls_rd)).mono ?_
  rintro e w9 ⟨A9, c9, rfl, K9⟩
  have K9 := Lib.hid ((by refine Hs.conseq (K9.at1.tail) fun h s => ?_; refine Sep.pickc (by first | with_reducible exact s | with_reducible exact s.at1 | with_reducible exact s.at2 | with_reducible exact s.at3 | with_reducible exact s.at4 | with_reducible exact s.at5 | with_reducible exact s.at6 | with_reducible exact s.at7) (fun h s => ?_); refine Sep.pickc (by first | with_reducible exact s | with_reducible exact s.at1 | with_reducible exact s.at2 | with_reducible exact s.at3 | with_reducible exact s.at4 | with_reducible exact s.at5 | with_reducible exact s.at6 | with_reducible exact s.at7) (fun h s => ?_); refine Sep.pickc (by first | with_reducible exact s | with_reducible exact s.at1 | with_reducible exact s.at2 | with_reducible exact s.at3 | with_reducible exact s.at4 | with_reducible exact s.at5 | with_reducible exact s.at6 | with_reducible exact s.at7) (fun h s => ?_); trivial) : Hs W w9 [Ls U8 5 (.slice A9 n c9) bs, Ls U8 5 (.slice A3 N c3) S, Old W])
  clear K8 T16 T11 T13
  go_wp2_with fail
  refine (eqsame12 _ _ bs w9 W _ K9.out K9.out.ls_rd (hr0.out.old K9.out.at2)).mono ?_
  rintro e wa ⟨rfl, Ka⟩
  replace Ka := Lib.hid Ka.tail
  clear K9
  go_wp2_with fail
  refine (T18a.out wa).mono ?_
  rintro e wa' ⟨rfl, rfl⟩
  have ct := cut_take Try.prog 22 5 1 Try.underlying22 (by kernel_rfl) A3 N c3 p (by omega)
  clear T18a
  go_wp2_with fail
  refine (open16 (.slice A3 p c3) (S.take p) wa W _ Ka.out (fun w' h => h.ls_rd.take p (by omega)) (hBS.out.take p) (by rw [List.length_take, hSl.out]; omega)).mono ?_
  rw [Q2.out]
  rintro e wb ⟨Ab, cb, rfl, Kb⟩
  replace Kb := Lib.hid Kb.tail
  clear Ka ct
  dsimp only [List.length_nil]
  have hsub : IntKind.i64.wrap ((N : Int) - 4) = (N : Int) - 4 := IntWalk.i64_in _ (by omega)
  have hadd : IntKind.i64.wrap (4 + (q : Int)) = ((4 + q : Nat) : Int) := by rw [IntWalk.i64_in _ (by omega)]; omega
  go_wp2_with fail
  refine (T18b.out wb).mono ?_
  rintro e wb' ⟨rfl, rfl⟩
  obtain ⟨g, off, rfl⟩ := Kb.out.ls_rd.some_ (by rw [hSl.out]; omega)
  have d0 : wb.cell? ⟨g, off + (4 + q), none⟩ = some (.int .u8 xn) := by have := Kb.out.ls_rd.cell hx.out 0 rfl; simpa [Enc.num] using this
  have f0 := Kb.out.ls_frozen (off + (4 + q))
  have hk1 : ((4 + q : Nat) : Int) < (N : Int) := by omega
  go_upto_region 15 with (fail)
  have hk2 : (0 : Int) ≤ 4 + (q : Int) := by omega
  have hk3 : 4 + (q : Int) < (N : Int) := by omega
  obtain ⟨y, hy⟩ : ∃ y, bits .xor .u8 (xn : Int) (2 ^ j % 256) = y := ⟨_, rfl⟩
  have hyy : 0 ≤ y ∧ y < 256 ∧ y ≠ (xn : Int) := by
    have hp : (2 : Int) ^ j % 256 = ((2 ^ j : Nat) : Int) := by
      have h1 : 2 ^ j < 256 := Nat.pow_lt_pow_right (n := 8) (by omega) hj8
      have h2 : ((2 ^ j : Nat) : Int) = (2 : Int) ^ j := by rw [Int.natCast_pow]; rfl
      rw [← h2]
      exact Int.emod_eq_of_lt (Int.natCast_nonneg _) (Int.ofNat_lt.2 h1)
    have h1 : 2 ^ j < 256 := Nat.pow_lt_pow_right (n := 8) (by omega) hj8
    rw [hp, u8_xor_nat xn (2 ^ j) hxn h1] at hy
    subst hy
    have h3 : xn ^^^ 2 ^ j < 2 ^ 8 := Nat.xor_lt_two_pow hxn h1
    refine ⟨Int.natCast_nonneg _, by omega, fun h => ?_⟩
    have h4 : xn ^^^ 2 ^ j = xn := by omega
    have h5 : 2 ^ j ^^^ xn = 0 ^^^ xn := by rw [Nat.xor_comm, h4, Nat.zero_xor]
    have h6 := xor_cancel h5
    have := Nat.pow_pos (n := j) (show 0 < 2 by omega)
    omega
  obtain ⟨y1, y2, y3⟩ := hyy
  have Q3 := Lib.hid (P3.out (4 + q) (xn : Int) y (by omega) hx.out ⟨y1, y2⟩ y3)
  have KZ := Lib.hid (Kb.out.ls_set rfl (4 + q) (by omega) y (.int .u8 y) rfl)
  have hBZ : Hid (Byt (S.set (4 + q) y)) := fun z hz => by
    rcases List.mem_or_eq_of_mem_set hz with h | h
    · exact hBS.out z h
    · rw [h]; exact ⟨y1, y2⟩
  go_upto_region 16 with (fail)
  clear d0 f0 hy Kb
  generalize World.setCell _ _ _ = wc at KZ ⊢
  go_wp2_with fail
  refine (open16 _ (S.set (4 + q) y) wc W _ KZ.out (fun w' h => h.ls_rd) hBZ.out (by rw [List.length_set, hSl.out]; omega)).mono ?_
  rw [Q3.out]
  rintro e wd ⟨Ad, cd, rfl, Kd⟩
  replace Kd := Lib.hid Kd
  clear KZ
  dsimp only [List.length_nil]
  go_wp2_with fail
  go_ret
  exact ⟨rfl, Kd.out.tail.tail.under_old⟩
end Go.Proofs.Ytjdkpogkhecijaa

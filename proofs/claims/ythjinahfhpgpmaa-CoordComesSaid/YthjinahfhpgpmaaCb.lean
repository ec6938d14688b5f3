import Derived.Test.YthjinahfhpgpmaaCa
import Derived.IntWalk
import Derived.Test.YthjinahfhpgpmaaProg
import Derived.Test.YthjinahfhpgpmaaLs
import Derived.Outline
import Derived.StillTailTactics
import Derived.Deep.DeepCutAuto
import Derived.Deep.CutBlock
import Derived.Deep.LoopGhost
import Derived.Deep.QuietTactic
import Derived.BigQuiet
import Derived.Deep.RegionHeld3
import Derived.Deep.RegionLaw
set_option linter.unusedVariables false
set_option linter.unusedSimpArgs false
namespace Go.Proofs.Ythjinahfhpgpmaa
open Go.RowKit
theorem fold_step {f : Co → Ctl → Co} {out : List Ctl} {k : Nat} {x : Ctl} (c : Co) (hx : out[k]? = some x) : (out.take (k + 1)).foldl f c = f ((out.take k).foldl f c) x := by
  rw [List.take_add_one, hx, List.foldl_append]
  rfl
theorem rk_wc (n : Nat) (I T : Int) : Rk n 0 I T = Wc n I T nobody nobody 0 0 T 0 0 0 := by
  have hf : nobody = fun x : Int => decide (0 ≤ x ∧ x < ((0 : Nat) : Int)) := by
    funext x
    show false = _
    rw [eq_comm, decide_eq_false_iff_not]
    omega
  unfold Rk Wc
  rw [← hf]
theorem new_tasks (n : Nat) (hn9 : n < 9) (i t : Int) : (Co.new (iota n) ((iota n).take 1) i t).tasks.length ≤ 1000 := by
  show (uniq [] (iota n)).length ≤ 1000
  rw [iota_uniq n hn9, iota_len]
  omega
theorem take_same (c : Co) (m : Ctl) : Same c (c.take m).1 := by
  unfold Co.take
  split
  · exact Same.refl c
  split
  · unfold Co.readied
    show Same c (if _ then _ else _ : Co)
    split <;> exact ⟨rfl, rfl, rfl, rfl⟩
  split
  · unfold Co.ack
    split <;> exact ⟨rfl, rfl, rfl, rfl⟩
  split <;> exact ⟨rfl, rfl, rfl, rfl⟩
set_option maxRecDepth 100000 in
set_option maxHeartbeats 8000000 in
theorem coordcomes_walk (n0 i0 t0 f0 : Int) (w : World) (hn : (Lit.int .i64 n0).wf = true) (hi : (Lit.int .i64 i0).wf = true) (ht : (Lit.int .i64 t0).wf = true) (hf : (Lit.int .i64 f0).wf = true) :
    Calls Try.prog 3 #[.int .i64 n0, .int .i64 i0, .int .i64 t0, .int .i64 f0] w fun e w' => e = .returned (.bool true) ∧ Below w.heap.size w w' := by
  clear hn hi ht hf
  obtain ⟨m, hm⟩ : ∃ m : Nat, n0 % 8 = (m : Int) := ⟨(n0 % 8).toNat, by omega⟩
  obtain ⟨N, hN⟩ : ∃ N, N = m + 1 := ⟨_, rfl⟩
  obtain ⟨i1, hi1⟩ : ∃ i1 : Nat, i0 % 20 = (i1 : Int) := ⟨(i0 % 20).toNat, by omega⟩
  obtain ⟨I, hI⟩ : ∃ I, I = i1 + 1 := ⟨_, rfl⟩
  obtain ⟨t1, ht1⟩ : ∃ t1 : Nat, t0 % 20 = (t1 : Int) := ⟨(t0 % 20).toNat, by omega⟩
  obtain ⟨T, hT⟩ : ∃ T, T = t1 + 1 := ⟨_, rfl⟩
  obtain ⟨f1, hf1⟩ : ∃ f1 : Nat, f0 % 5 = (f1 : Int) := ⟨(f0 % 5).toNat, by omega⟩
  obtain ⟨Q, hQ⟩ : ∃ Q, Q = f1 + 1 := ⟨_, rfl⟩
  have hw1 : IntKind.i64.wrap (1 + (m : Int)) = (N : Int) := by rw [IntWalk.i64_in _ (by omega)]; omega
  have hw2 : IntKind.i64.wrap (1 + (i1 : Int)) = (I : Int) := by rw [IntWalk.i64_in _ (by omega)]; omega
  have hw3 : IntKind.i64.wrap (1 + (t1 : Int)) = (T : Int) := by rw [IntWalk.i64_in _ (by omega)]; omega
  obtain ⟨Z, hZ⟩ : ∃ Z : Int, Z = (Q : Int) := ⟨_, rfl⟩
  have hw4 : IntKind.i64.wrap (1 + (f1 : Int)) = Z := by rw [IntWalk.i64_in _ (by omega)]; omega
  have hNN : Hid (1 ≤ N ∧ N < 9) := by show _ ∧ _; omega
  have hI9 : Hid (1 ≤ (I : Int) ∧ (I : Int) ≤ 20) := by show _ ∧ _; omega
  have hT9 : Hid (1 ≤ (T : Int) ∧ (T : Int) ≤ 20) := by show _ ∧ _; omega
  have hQ9 : Hid (1 ≤ Q ∧ Q ≤ 5) := by show _ ∧ _; omega
  have hcI : Hid (clampC I = I) := by show min (max (I : Int) 1) 1000 = I; omega
  have hcT : Hid (clampC T = T) := by show min (max (T : Int) 1) 1000 = T; omega
  have hQ0 : (Z == 0) = false := by rw [beq_eq_false_iff_ne]; omega
  replace hZ := Lib.hid hZ
  replace hm := Lib.hid hm
  replace hi1 := Lib.hid hi1
  replace ht1 := Lib.hid ht1
  replace hf1 := Lib.hid hf1
  clear hN hI hT hQ
  go_enter Try.func3, Try.ntmps3
  go_wp2_with fail
  refine (known8 w w _ (Hs.start w)).mono ?_
  rintro e w1 ⟨rfl, H⟩
  go_wp2_with fail
  refine (place9 n0 8 _ (by omega) (by omega)).mono ?_
  rw [hm.out]
  rintro e w2 ⟨rfl, rfl⟩
  go_wp2_with fail
  refine (place9 i0 20 _ (by omega) (by omega)).mono ?_
  rw [hi1.out]
  rintro e w2 ⟨rfl, rfl⟩
  go_wp2_with fail
  refine (place9 t0 20 _ (by omega) (by omega)).mono ?_
  rw [ht1.out]
  rintro e w2 ⟨rfl, rfl⟩
  go_wp2_with fail
  refine (place9 f0 5 _ (by omega) (by omega)).mono ?_
  rw [hf1.out]
  rintro e w2 ⟨rfl, rfl⟩
  have H0 := Lib.hid (H.ls_nil (Enc.num .i64) 3)
  clear H hw1 hw2 hw3
  go_wp2_with fail
  clear hw4
  go_loopg [9, 10] N (fun k ov iv wr => ∃ (j : Nat) (A : Option Addr) (c : Nat), k + j = N ∧ iv = .int .i64 j ∧ ov = .slice A j c ∧ Hid (Hs w wr [Ls (Enc.num .i64) 3 (.slice A j c) (iota j), Old w]))
  case atStart => exact ⟨0, none, 0, rfl, rfl, rfl, H0⟩
  case round =>
    clear H0
    obtain ⟨j, A, c, hk, rfl, rfl, H⟩ := hrel
    replace hk := Lib.hid hk
    rcases Nat.lt_or_ge j N with hj | hj
    · have hj1 : (j : Int) < (N : Int) := by omega
      have hw6 : IntKind.i64.wrap ((j : Int) + 1) = ((j + 1 : Nat) : Int) := by rw [IntWalk.i64_in _ (by have := hNN.out; omega)]; omega
      go_wp2_with (at_builtin; refine wpList_append1N (E := Enc.num .i64) j (iota_len j) rfl (.tmp 37) (.tmp 39) 24 rfl 3 _ 1 8 Try.underlying24 infoI rfl (by decide) (by decide) rfl rfl rfl (by simp) H.out (j : Int) (by have := hNN.out; omega) ?_)
      intro A5 c5 w5 H5
      rw [← iota_succ] at H5
      replace H5 := Lib.hid H5
      clear H
      go_wp2_with fail
      go_roundg (N - (j + 1))
      case measure => have := hk.out; omega
      case rel => exact ⟨j + 1, A5, c5, by have := hk.out; omega, by go_num, by first | rfl | simp, H5⟩
    · have hj1 : decide ((j : Int) < (N : Int)) = false := by rw [decide_eq_false_iff_not]; omega
      have hj2 : decide (j < N) = false := by rw [decide_eq_false_iff_not]; omega
      have hjn : j = N := by have := hk.out; omega
      subst hjn
      have hcap := H.out.ls_rd.caps.2
      obtain ⟨g, off, rfl⟩ := H.out.ls_rd.some_ (by rw [iota_len]; have := hNN.out; omega)
      have hct := cut_take Try.prog 24 3 1 Try.underlying24 (by kernel_rfl) (some ⟨g, off, none⟩) j c 1 (by have := hNN.out; omega)
      have hd1 : Hid (∀ w', Hs w w' [Ls (Enc.num .i64) 3 (.slice (some ⟨g, off, none⟩) j c) (iota j), Old w] → RdL (Enc.num .i64) w' (.slice (some ⟨g, off, none⟩) 1 c) ((iota j).take 1)) := fun w' h => h.ls_rd.take 1 (by have := hNN.out; omega)
      have hj0 : 1 ≤ j := hNN.out.1
      have hj9 : j < 9 := hNN.out.2
      clear hj hk hj1
      go_wp2_with fail
      clear hj0 hj9
      refine (new10 _ _ (iota j) ((iota j).take 1) I T _ w _ H.out (fun w' h => h.ls_rd) (fun w' h => hd1.out w' h) (by rw [iota_len]; have := hNN.out; omega) (by rw [List.length_take]; omega)).mono ?_
      rintro e w1 ⟨p, v, rfl, H1⟩
      have htl := Lib.hid (new_tasks j hNN.out.2 I T)
      obtain ⟨s0, hs0⟩ : ∃ s0, s0 = Co.new (iota j) ((iota j).take 1) I T := ⟨_, rfl⟩
      have hbg := Lib.hid (rk_new j hNN.out.1 hNN.out.2 I T)
      rw [hcI.out, hcT.out, rk_wc] at hbg
      rw [← hs0] at H1 hbg htl
      clear hs0 hct hd1 hcI hcT
      have H2 := Lib.hid H1.at1.tail
      clear H H1
      go_wp2_with fail
      refine (begin11 p v s0 _ w _ H2.out 1 0 0 htl.out).mono ?_
      rw [hbg.out]
      rintro e w2 ⟨A3, c3, rfl, H3⟩
      have H4 := Lib.hid H3.tail
      clear H2 H3 hbg htl hcap
      have hgd := Lib.hid (good_start (lost := Q) (T := T) hNN.out.1 hI9.out)
      have hjl : Hid ((iota j).length ≤ 1000) := by show _ ≤ _; rw [iota_len]; have := hNN.out; omega
      go_wp2_with fail
      clear hj2
      obtain ⟨K, hK⟩ : ∃ K, K = 1010 := ⟨_, rfl⟩
      have hgd : Hid (Good j Q I T 0 (Wc j I T nobody nobody 0 0 T 0 0 0) (K : Int)) := by rw [hK]; exact hgd.out
      replace hK := Lib.hid hK
      go_loopg [12] K (fun k iv wr => ∃ (i : Nat) (c : Co), i + k ≤ K ∧ iv = .int .i64 i ∧ Hid (Good j Q I T i c (k : Int)) ∧ Hid (Hs w wr [CoV p v c, Old w]))
      case atStart => exact ⟨0, _, by omega, rfl, hgd, H4⟩
      case round =>
        clear H4 hgd
        obtain ⟨i, c, hik, rfl, hG, H⟩ := hrel
        have hik : i + gk ≤ 1010 := by have := hK.out; omega
        have hN := Lib.hid (good_next hNN.out hQ9.out hI9.out hT9.out hG.out)
        have hi4 : (i : Int) < 4000 := by omega
        have hwi : IntKind.i64.wrap ((i : Int) + 1) = ((i + 1 : Nat) : Int) := by rw [IntWalk.i64_in _ (by omega)]; omega
        have hiB : Hid (i ≤ 1010) := by show _ ≤ _; omega
        replace hik := Lib.hid hik
        clear hG
        go_wp2_with fail
        refine (ticks12 p v c _ w _ H.out i i hN.out.2.1 (by have := hiB.out; omega) (by have := hiB.out; omega) (by rw [hN.out.2.2.1]; exact hjl.out) (by rw [hN.out.2.2.2.1]; decide)).mono ?_
        rintro e w6 ⟨A6, c6, rfl, H1⟩
        replace H1 := Lib.hid H1.at1
        clear H
        obtain ⟨hgk, hbd0, ht1, hs1, hn1, hn2⟩ := hN.out
        have htb := tick_bd hN.out.2.1
        have hlen1 : Hid (c.tick.1.tasks.length ≤ 1000 ∧ c.tick.1.sinks.length ≤ 1000) := by
          show _ ∧ _
          rw [htb.2.1.tasks, htb.2.1.sinks, ht1, hs1]
          exact ⟨hjl.out, by decide⟩
        clear hN ht1 hs1 htb hbd0 hgk
        replace hn1 := Lib.hid hn1
        obtain ⟨out, hout⟩ : ∃ out, c.tick.2 = out := ⟨_, rfl⟩
        obtain ⟨cc, hcc⟩ : ∃ cc, c.tick.1 = cc := ⟨_, rfl⟩
        rw [hout, hcc] at hn2
        rw [hout] at hn1 H1 ⊢
        rw [hcc] at hlen1 H1
        clear hout hcc
        clear c
        have hcap2 := H1.out.at1.ls_rd.caps.2
        obtain ⟨M, hM⟩ : ∃ M, out.length = M := ⟨_, rfl⟩
        rw [hM] at H1 hcap2 ⊢
        replace hM := Lib.hid hM
        go_wp2_with fail
        rcases hn2 with ⟨rest, hr1, hr2⟩ | ⟨hc1, rr, hc2, hc3⟩
        · have hx : out[0]? = some (3, 1, cc.durable, 0) := by rw [hr1]; rfl
          have hM0 : (0 : Int) < (M : Int) := by have := hM.out; rw [hr1, List.length_cons] at this; omega
          have hM00 : 0 < M := by omega
          replace hx := Lib.hid hx
          have hrm : (i : Int).tmod Z = 0 := by rw [hZ.out, Int.tmod_eq_emod_of_nonneg (by omega)]; exact hr2
          have hw9 : IntKind.i64.wrap ((i : Int) + 0) = (i : Int) := by rw [IntWalk.i64_in _ (by have := hiB.out; omega)]; omega
          clear hr1 hr2
          go_loopg [14] M (fun m kv wr2 => m = M ∧ kv = .int .i64 0 ∧ Hid (wr2 = w6))
          case atStart => exact ⟨rfl, rfl, Lib.hid rfl⟩
          case round =>
            obtain ⟨_, rfl, hw0⟩ := hrel
            have hw0 := hw0.out
            subst hw0
            obtain ⟨g2, o2, rfl⟩ := H1.out.at1.ls_rd.some_ (by have := hM.out; omega)
            obtain ⟨e0, e1, e2, e3⟩ := ctl_cells H1.out.at1.ls_rd hx.out
            simp only [Nat.zero_mul, Nat.add_zero] at e0 e1 e2 e3
            have hQ1 : Z ≠ 0 := by have := hZ.out; have := hQ9.out; omega
            go_upto_region 22 with (fail)
            have H2 := Lib.hid (H1.out.alloc (.cells #[.int .i64 3, .int .u64 1, .int .u64 cc.durable, .int .i64 0] 32))
            clear e0 e1 e2 e3
            generalize hsz : wr.heap.size = bm at H2 ⊢
            clear hsz
            generalize World.alloc _ _ = w4 at H2 ⊢
            have b0 : w4.cell? ⟨bm, 0, none⟩ = some (.int .i64 3) := H2.out.cellOf 0 rfl
            have b2 : w4.cell? ⟨bm, 2, none⟩ = some (.int .u64 cc.durable) := H2.out.cellOf 2 rfl
            have b3 : w4.cell? ⟨bm, 3, none⟩ = some (.int .i64 0) := H2.out.cellOf 3 rfl
            have hdu : ∀ q, Calls Try.prog 13 #[.pointer (some ⟨p, 0, none⟩)] (w4.drewN q) fun e w'' => e = .returned (.int .u64 cc.durable) ∧ ∃ m, w'' = w4.drewN m := fun q => by
              refine (durable13 p v cc _ w _ (H2.out.at1.drewN q)).mono ?_
              rintro e w1 ⟨rfl, rfl⟩
              exact ⟨rfl, q, rfl⟩
            go_upto_region 23 with (fail)
            go_quiet (first | (go_at_call 13; exact hdu _))
            go_wp2_with fail
            go_ret
            exact ⟨by simp, (H2.out.tail.tail.tail.drewN nq).under_old⟩
        · replace hc1 := Lib.hid hc1
          have hrr : Hid (1 ≤ rr) := (good_next hNN.out hQ9.out hI9.out hT9.out hc3).1
          replace hc2 := Lib.hid hc2
          replace hc3 := Lib.hid hc3
          go_loopg [14] M (fun m kv wr => ∃ (k : Nat) (cu : Co), m + k = M ∧ kv = .int .i64 k ∧ Hid (cu = (out.take k).foldl (hear Q i) cc) ∧ Hid (Hs w wr [CoV p v cu, Ls ECtl 32 (.slice A6 M c6) out, Old w]))
          case atStart => exact ⟨0, cc, rfl, rfl, Lib.hid rfl, H1⟩
          case round =>
            clear H1
            obtain ⟨k, cu, hkk, rfl, hcu, H⟩ := hrel
            replace hkk := Lib.hid hkk
            have hlc : Hid (cu.tasks.length ≤ 1000 ∧ cu.sinks.length ≤ 1000) := by
              show _ ∧ _
              rw [hcu.out]
              have hs := fold_same Q i (out.take k) cc
              rw [hs.tasks, hs.sinks]
              exact hlen1.out
            rcases Nat.lt_or_ge k M with hkM | hkM
            · have hk0 : (0 : Int) ≤ (k : Int) := by omega
              have hk1 : (k : Int) < (M : Int) := by omega
              have hw8 : IntKind.i64.wrap ((k : Int) + 1) = ((k + 1 : Nat) : Int) := by rw [IntWalk.i64_in _ (by omega)]; omega
              obtain ⟨x, hx⟩ : ∃ x, out[k]? = some x := ⟨_, List.getElem?_eq_getElem (by have := hM.out; omega)⟩
              obtain ⟨g2, o2', rfl⟩ := H.out.at1.ls_rd.some_ (by have := hM.out; omega)
              obtain ⟨e0, e1, e2, e3⟩ := ctl_cells H.out.at1.ls_rd hx
              have hx9 := hn1.out x (List.mem_of_getElem? hx)
              have hxk := hc1.out x (List.mem_of_getElem? hx)
              obtain ⟨xk, xe, xn, xt⟩ := x
              simp only at e0 e1 e2 e3 hx9 hxk
              obtain ⟨y, hy⟩ : ∃ y : Nat, (i : Int) + xt = (y : Int) := ⟨i + xt.toNat, by omega⟩
              have hwy : IntKind.i64.wrap ((i : Int) + xt) = (y : Int) := by rw [IntWalk.i64_in _ (by have := hiB.out; omega)]; exact hy
              obtain ⟨z, hz⟩ : ∃ z : Int, (y : Int) % (Q : Int) = z := ⟨_, rfl⟩
              have hrm : (y : Int).tmod Z = z := by rw [hZ.out, Int.tmod_eq_emod_of_nonneg (by omega)]; exact hz
              have hz5 : 0 ≤ z ∧ z < 5 := by rw [← hz]; exact emod_lt5 hQ9.out _
              have hwz : IntKind.i64.wrap z = z := IntWalk.i64_in _ (by omega)
              have hQ1 : Z ≠ 0 := by have := hZ.out; have := hQ9.out; omega
              by_cases hz0 : z = 0
              · have hhd : ((i : Int) + xt) % (Q : Int) = 0 := by rw [hy, hz]; exact hz0
                have hxk2 : xk = 1 ∨ xk = 5 := by
                  rcases hxk with h | h
                  · exact h
                  · exact absurd hhd h
                subst hz0
                clear hxk hx9 hz hz5 hy
                rcases hxk2 with rfl | rfl
                · skip
                  obtain ⟨c', sv, htk⟩ : ∃ c' sv, cu.take (2, xe, xn, xt) = (c', sv) := ⟨_, _, rfl⟩
                  have hl2 : Hid (c'.tasks.length ≤ 1000 ∧ c'.sinks.length ≤ 1000) := by
                    show _ ∧ _
                    have hs := take_same cu (2, xe, xn, xt)
                    rw [htk] at hs
                    rw [hs.tasks, hs.sinks]
                    exact hlc.out
                  have hhr : hear Q i cu (1, xe, xn, xt) = if sv = 0 then c' else (c'.store sv true).1 := by
                    unfold hear
                    rw [if_pos hhd]
                    show (if (cu.take (2, xe, xn, xt)).2 = 0 then (cu.take (2, xe, xn, xt)).1 else ((cu.take (2, xe, xn, xt)).1.store (cu.take (2, xe, xn, xt)).2 true).1) = _
                    rw [htk]
                  have hfs := fold_step (f := hear Q i) cc hx
                  rw [← hcu.out, hhr] at hfs
                  replace hfs := Lib.hid hfs
                  replace htk := Lib.hid htk
                  clear hx hhr hhd
                  go_upto_region 22 with (fail)
                  have H1 := Lib.hid (H.out.alloc (.cells #[.int .i64 1, .int .u64 xe, .int .u64 xn, .int .i64 xt] 32))
                  clear H e0 e1 e2 e3
                  generalize hsz : wr.heap.size = bm at H1 ⊢
                  clear hsz
                  generalize World.alloc _ _ = w4 at H1 ⊢
                  have b0 : w4.cell? ⟨bm, 0, none⟩ = some (.int .i64 1) := H1.out.cellOf 0 rfl
                  have f0 := H1.out.frozenOf 0
                  have H1' := Lib.hid (H1.out.setCell (i := 0) (.int .i64 2))
                  clear H1
                  go_upto_region 28 with (fail)
                  generalize World.setCell w4 _ _ = w7 at H1' ⊢
                  simp only [List.setIfInBounds_toArray, List.set_cons_zero, List.set_cons_succ] at H1'
                  clear b0 f0
                  have b0 : w7.cell? ⟨bm, 0, none⟩ = some (.int .i64 2) := H1'.out.cellOf 0 rfl
                  have b1 : w7.cell? ⟨bm, 1, none⟩ = some (.int .u64 xe) := H1'.out.cellOf 1 rfl
                  have b2 : w7.cell? ⟨bm, 2, none⟩ = some (.int .u64 xn) := H1'.out.cellOf 2 rfl
                  have b3 : w7.cell? ⟨bm, 3, none⟩ = some (.int .i64 xt) := H1'.out.cellOf 3 rfl
                  have H1 := Lib.hid H1'.out.tail
                  clear H1'
                  go_wp2_with fail
                  refine (take14 p v cu _ w _ H1.out 2 xe xn xt hlc.out.1).mono ?_
                  rw [htk.out]
                  rintro e w8 ⟨rfl, H2⟩
                  replace H2 := Lib.hid H2
                  clear H1 b0 b1 b2 b3
                  by_cases hsv : sv = 0
                  · have hfs2 : Hid (c' = (out.take (k + 1)).foldl (hear Q i) cc) := by show _ = _; rw [hfs.out, if_pos hsv]
                    subst hsv
                    go_wp2_with fail
                    go_roundg (M - (k + 1))
                    case measure => have := hkk.out; omega
                    case rel => exact ⟨k + 1, c', by have := hkk.out; omega, by go_num, hfs2, H2⟩
                  · have hsv1 : (sv != 0) = true := by rw [bne_iff_ne]; exact hsv
                    have hfs2 : Hid ((c'.store sv true).1 = (out.take (k + 1)).foldl (hear Q i) cc) := by show _ = _; rw [hfs.out, if_neg hsv]
                    clear hsv
                    go_wp2_with fail
                    refine (stored15 p v c' _ w _ H2.out sv true hl2.out.2).mono ?_
                    rintro e w9 ⟨A9, c9, rfl, H3⟩
                    replace H3 := Lib.hid H3.tail
                    clear H2
                    go_wp2_with fail
                    go_roundg (M - (k + 1))
                    case measure => have := hkk.out; omega
                    case rel => exact ⟨k + 1, _, by have := hkk.out; omega, by go_num, hfs2, H3⟩
                · skip
                  obtain ⟨c', sv, htk⟩ : ∃ c' sv, cu.take (6, xe, xn, xt) = (c', sv) := ⟨_, _, rfl⟩
                  have hl2 : Hid (c'.tasks.length ≤ 1000 ∧ c'.sinks.length ≤ 1000) := by
                    show _ ∧ _
                    have hs := take_same cu (6, xe, xn, xt)
                    rw [htk] at hs
                    rw [hs.tasks, hs.sinks]
                    exact hlc.out
                  have hhr : hear Q i cu (5, xe, xn, xt) = if sv = 0 then c' else (c'.store sv true).1 := by
                    unfold hear
                    rw [if_pos hhd]
                    show (if (cu.take (6, xe, xn, xt)).2 = 0 then (cu.take (6, xe, xn, xt)).1 else ((cu.take (6, xe, xn, xt)).1.store (cu.take (6, xe, xn, xt)).2 true).1) = _
                    rw [htk]
                  have hfs := fold_step (f := hear Q i) cc hx
                  rw [← hcu.out, hhr] at hfs
                  replace hfs := Lib.hid hfs
                  replace htk := Lib.hid htk
                  clear hx hhr hhd
                  go_upto_region 22 with (fail)
                  have H1 := Lib.hid (H.out.alloc (.cells #[.int .i64 5, .int .u64 xe, .int .u64 xn, .int .i64 xt] 32))
                  clear H e0 e1 e2 e3
                  generalize hsz : wr.heap.size = bm at H1 ⊢
                  clear hsz
                  generalize World.alloc _ _ = w4 at H1 ⊢
                  have b0 : w4.cell? ⟨bm, 0, none⟩ = some (.int .i64 5) := H1.out.cellOf 0 rfl
                  have f0 := H1.out.frozenOf 0
                  have H1' := Lib.hid (H1.out.setCell (i := 0) (.int .i64 6))
                  clear H1
                  go_upto_region 28 with (fail)
                  generalize World.setCell w4 _ _ = w7 at H1' ⊢
                  simp only [List.setIfInBounds_toArray, List.set_cons_zero, List.set_cons_succ] at H1'
                  clear b0 f0
                  have b0 : w7.cell? ⟨bm, 0, none⟩ = some (.int .i64 6) := H1'.out.cellOf 0 rfl
                  have b1 : w7.cell? ⟨bm, 1, none⟩ = some (.int .u64 xe) := H1'.out.cellOf 1 rfl
                  have b2 : w7.cell? ⟨bm, 2, none⟩ = some (.int .u64 xn) := H1'.out.cellOf 2 rfl
                  have b3 : w7.cell? ⟨bm, 3, none⟩ = some (.int .i64 xt) := H1'.out.cellOf 3 rfl
                  have H1 := Lib.hid H1'.out.tail
                  clear H1'
                  go_wp2_with fail
                  refine (take14 p v cu _ w _ H1.out 6 xe xn xt hlc.out.1).mono ?_
                  rw [htk.out]
                  rintro e w8 ⟨rfl, H2⟩
                  replace H2 := Lib.hid H2
                  clear H1 b0 b1 b2 b3
                  by_cases hsv : sv = 0
                  · have hfs2 : Hid (c' = (out.take (k + 1)).foldl (hear Q i) cc) := by show _ = _; rw [hfs.out, if_pos hsv]
                    subst hsv
                    go_wp2_with fail
                    go_roundg (M - (k + 1))
                    case measure => have := hkk.out; omega
                    case rel => exact ⟨k + 1, c', by have := hkk.out; omega, by go_num, hfs2, H2⟩
                  · have hsv1 : (sv != 0) = true := by rw [bne_iff_ne]; exact hsv
                    have hfs2 : Hid ((c'.store sv true).1 = (out.take (k + 1)).foldl (hear Q i) cc) := by show _ = _; rw [hfs.out, if_neg hsv]
                    clear hsv
                    go_wp2_with fail
                    refine (stored15 p v c' _ w _ H2.out sv true hl2.out.2).mono ?_
                    rintro e w9 ⟨A9, c9, rfl, H3⟩
                    replace H3 := Lib.hid H3.tail
                    clear H2
                    go_wp2_with fail
                    go_roundg (M - (k + 1))
                    case measure => have := hkk.out; omega
                    case rel => exact ⟨k + 1, _, by have := hkk.out; omega, by go_num, hfs2, H3⟩
              · have hz1 : (z != 0) = true := by rw [bne_iff_ne]; exact hz0
                have hhr : hear Q i cu (xk, xe, xn, xt) = cu := by
                  unfold hear
                  rw [if_neg (by show ¬ ((i : Int) + xt) % (Q : Int) = 0; rw [hy, hz]; exact hz0)]
                have hfs := fold_step (f := hear Q i) cc hx
                rw [← hcu.out, hhr] at hfs
                replace hfs := Lib.hid hfs.symm
                clear hx hhr hxk hx9 hz hz5 hy hz0
                go_wp2_with fail
                go_roundg (M - (k + 1))
                case measure => have := hkk.out; omega
                case rel => exact ⟨k + 1, cu, by have := hkk.out; omega, by go_num, hfs, H⟩
            · have hk1 : decide ((k : Int) < (M : Int)) = false := by rw [decide_eq_false_iff_not]; omega
              have hk2 : decide (k < M) = false := by rw [decide_eq_false_iff_not]; omega
              have hcu2 : cu = out.foldl (hear Q i) cc := by rw [hcu.out, List.take_of_length_le (by have := hM.out; omega)]
              obtain ⟨r2, hr2⟩ : ∃ r2 : Nat, rr = (r2 : Int) := ⟨rr.toNat, by have := hrr.out; omega⟩
              have hG2 : Hid (Good j Q I T (i + 1) cu (r2 : Int)) := by show Good _ _ _ _ _ _ _; rw [hcu2, ← hr2]; exact hc3.out
              rw [hr2] at hc2
              clear hkM hcu2 hr2
              go_wp2_with fail
              go_roundg r2
              case measure => have := hc2.out; omega
              case rel => exact ⟨i + 1, cu, by have := hc2.out; have := hik.out; have := hK.out; omega, by go_num, hG2, H.out.at1.tail⟩
end Go.Proofs.Ythjinahfhpgpmaa

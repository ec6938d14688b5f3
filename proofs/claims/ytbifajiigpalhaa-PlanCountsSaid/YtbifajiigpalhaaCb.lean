import Derived.Test.YtbifajiigpalhaaCa
import Derived.Test.YtbifajiigpalhaaKn
import Derived.Test.YtbifajiigpalhaaNe
import Derived.IntWalk
import Derived.Laws.MakeOwn
import Derived.Deep.RegionHeld3
import Derived.Test.YtbifajiigpalhaaProg
import Derived.Test.YtbifajiigpalhaaLs
import Derived.Outline
import Derived.StillTailTactics
import Derived.Deep.DeepCutAuto
import Derived.Deep.CutBlock
import Derived.Deep.LoopGhost
import Derived.Deep.QuietTactic
import Derived.BigQuiet
import Derived.Deep.RegionHeld3
import Derived.Deep.RegionLaw
set_option linter.unusedVariables false
set_option linter.unusedSimpArgs false
namespace Go.Proofs.Ytbifajiigpalhaa
open Go.RowKit
def csum (zs : List Nd) (i : Nat) : Nat := ((zs.zipIdx.take i).flatMap (chn4 zs (tasks zs))).length
def isum (zs : List Nd) (i : Nat) (z : Nd) (a : Nat) : Nat := ((z.2.zipIdx.take a).flatMap (chn3 zs (tasks zs) i z)).length
theorem fst0_step {zs : List Nd} {i : Nat} {z : Nd} (hz : zs[i]? = some z) : fst0 zs (i + 1) = fst0 zs i + tcount z := by
  unfold fst0
  rw [List.take_add_one, hz, List.map_append, List.sum_append]
  simp
theorem fst0_all (zs : List Nd) : fst0 zs zs.length = (tasks zs).length := by
  unfold fst0
  rw [List.take_length, tasks_length]
theorem csum_step {zs : List Nd} {i : Nat} {z : Nd} (hz : zs[i]? = some z) : csum zs (i + 1) = csum zs i + isum zs i z z.2.length := by
  unfold csum isum
  rw [fm_step _ _ i _ (zipIdx_get zs i z hz), List.length_append, show z.2.zipIdx.take z.2.length = z.2.zipIdx from List.take_of_length_le (by simp)]
  rfl
theorem csum_all (zs : List Nd) : csum zs zs.length = (chans zs).length := by
  unfold csum
  rw [List.take_of_length_le (by simp)]
  rfl
theorem isum_step {zs : List Nd} (hok : JobOk zs) {i m a : Nat} {z y : Nd} (hz : zs[i]? = some z) (ha : z.2[a]? = some (m : Int)) (hy : zs[m]? = some y) : (isum zs i z (a + 1) : Int) = isum zs i z a + costOf zs i y.par z.par := by
  unfold isum
  rw [fm_step _ _ a _ (zipIdx_get z.2 a _ ha), List.length_append, ← chn3_len hok hz hy (a := a)]
  omega
def Uin (zs : List Nd) (i : Nat) (z : Nd) (a : Nat) : List Int := (zs.take i).flatMap (·.2) ++ z.2.take a
theorem Uin_step {zs : List Nd} {i a : Nat} {z : Nd} {m : Nat} (ha : z.2[a]? = some (m : Int)) : Uin zs i z (a + 1) = Uin zs i z a ++ [(m : Int)] := by
  unfold Uin
  rw [List.take_add_one, ha, List.append_assoc]
  rfl
theorem Uin_all {zs : List Nd} {i : Nat} {z : Nd} (hz : zs[i]? = some z) : Uin zs i z z.2.length = (zs.take (i + 1)).flatMap (·.2) := by
  unfold Uin
  rw [List.take_length, fm_step _ zs i z hz]
theorem Uin_zero (zs : List Nd) (i : Nat) (z : Nd) : Uin zs i z 0 = (zs.take i).flatMap (·.2) := by
  unfold Uin
  simp
theorem cost_le {zs : List Nd} {i : Nat} {p q : Int} (hp : 1 ≤ p ∧ p ≤ 4) (hq : 1 ≤ q ∧ q ≤ 4) : 0 ≤ costOf zs i p q ∧ costOf zs i p q ≤ 16 := by
  unfold costOf
  have := @cost_bd zs i p q hp hq
  split <;> omega
set_option maxRecDepth 100000 in
set_option maxHeartbeats 4000000 in
theorem plancounts_walk (W : World) (jv : Value) (zs : List Nd) (hx : JobX W jv zs) : Calls Try.prog 6 #[.agg #[jv]] W fun e w' => e = .returned (.bool true) ∧ Below W.heap.size W w' := by
  obtain ⟨Aj, cj, hv⟩ := hx.job.form
  subst hv
  have hcj := hx.job.1.caps.2
  obtain ⟨N, hN⟩ : ∃ N, zs.length = N := ⟨_, rfl⟩
  have JJ : Hid (∀ w', Hs W w' [Old W] → JobR w' (.slice Aj N cj) zs) := fun w' h => by
    have := hx.job
    rw [hN] at this
    exact this.step ((Kept.refl W).hs h)
  have F9 := Lib.hid (fun w hk => fit9 (.slice Aj zs.length cj) zs hx w hk)
  have H := Lib.hid ((Hs.start W).alloc (.cells #[.slice Aj zs.length cj] 24))
  rw [hN] at hcj F9 H ⊢
  replace hN := Lib.hid hN
  clear hx
  go_enter Try.func6, Try.ntmps6
  go_upto_region 1 with (fail)
  generalize World.alloc W _ = w1 at H ⊢
  generalize W.heap.size = b at H ⊢
  go_wp2_with fail
  refine (known8 w1 W _ H.out).mono ?_
  rintro e w2 ⟨rfl, H2⟩
  have b0 : w2.cell? ⟨b, 0, none⟩ = some (.slice Aj N cj) := H2.cellOf 0 rfl
  replace H2 := Lib.hid H2
  clear H
  go_wp2_with fail
  refine (F9.out w2 ((Kept.refl W).hs H2.out.tail)).mono ?_
  rintro e w3 ⟨r, rfl, hr, hb⟩
  have H3 := Lib.hid (H2.out.below hb)
  replace hr := Lib.hid hr
  clear hb H2 b0 F9
  cases r with
  | false =>
    go_wp2_with fail
    go_ret
    exact ⟨rfl, H3.out.tail.under_old⟩
  | true =>
  have hok : Hid (JobOk zs) := hr.out rfl
  clear hr
  have b0 : w3.cell? ⟨b, 0, none⟩ = some (.slice Aj N cj) := H3.out.cellOf 0 rfl
  have hN12 : N ≤ 12 := by have := hok.out.few; have := hN.out; omega
  go_wp2_with fail
  refine (make10 (.slice Aj N cj) zs w3 W _ H3.out (fun w' h => JJ.out w' h.tail) (by rw [hN.out]; omega) (fun z hz => by have := (hok.out.node z hz).few; omega)).mono ?_
  rintro e w4 ⟨AT, cT, AC, cC, rfl, K⟩
  obtain ⟨T, hT⟩ : ∃ T, tasks zs = T := ⟨_, rfl⟩
  obtain ⟨Cs, hC⟩ : ∃ T, chans zs = T := ⟨_, rfl⟩
  rw [hT, hC] at K
  rw [hT, hC]
  replace hT := Lib.hid hT
  replace hC := Lib.hid hC
  obtain ⟨nT, hnT⟩ : ∃ n, T.length = n := ⟨_, rfl⟩
  obtain ⟨nC, hnC⟩ : ∃ n, Cs.length = n := ⟨_, rfl⟩
  rw [hnT, hnC] at K
  rw [hnT, hnC]
  have hcT := K.ls_rd.caps.2
  have hcC := K.at1.ls_rd.caps.2
  replace hnT := Lib.hid hnT
  replace hnC := Lib.hid hnC
  have K2 := Lib.hid (K.alloc (.cells #[.slice AT nT cT, .slice AC nC cC] 30))
  clear K H3 b0
  go_upto_region 6 with (fail)
  generalize World.alloc w4 _ = w5 at K2 ⊢
  generalize w4.heap.size = p at K2 ⊢
  have b0 : w5.cell? ⟨b, 0, none⟩ = some (.slice Aj N cj) := K2.out.at3.cellOf 0 rfl
  have hmk : ∀ w, (Instr.makeSlice 47 (.int .i64 (N : Int)) (.int .i64 (N : Int))).run Try.prog w = .ok (.slice (some ⟨w.heap.size, 0, none⟩) N N) (w.alloc (.cells (madeCells #[.bool false] N) 4)) := run_make_row' (P := Try.prog) 47 4 (.bool false) 1 Try.underlying47 infoB rfl .i64 .i64 N (by omega) (by omega)
  go_wp2_with fail
  have K3 := Lib.hid (K2.out.ls_made (E := Enc.flag) 4 false (.bool false) rfl N (by omega))
  clear K2 b0 hmk
  generalize World.alloc w5 _ = w6 at K3 ⊢
  generalize w5.heap.size = gd at K3 ⊢
  obtain ⟨gj, oj, rfl⟩ := (JJ.out w6 K3.out.tail.tail.tail.tail.tail).1.some_ (by rw [List.length_map]; exact hok.out.pos)
  go_loopg [4, 5, 7] N (fun k tv cv iv wr => ∃ (i ct cc : Nat) (D : List Bool), k + i = N ∧ tv = .int .i64 ct ∧ cv = .int .i64 cc ∧ iv = .int .i64 i ∧ ct ≤ 4 * i ∧ cc ≤ 64 * i ∧ Hid (fst0 zs i = ct) ∧ Hid (csum zs i = cc) ∧ Hid (D.length = N) ∧ Hid (Mkd ((zs.take i).flatMap (·.2)) D) ∧
    Hid (Hs W wr (Ls Enc.flag 4 (.slice (some ⟨gd, 0, none⟩) N N) D :: Blk p (.cells #[.slice AT nT cT, .slice AC nC cC] 30) :: Ls ETask 42 (.slice AT nT cT) T :: Ls EChn 40 (.slice AC nC cC) Cs :: Blk b (.cells #[.slice (some ⟨gj, oj, none⟩) N cj] 24) :: [Old W])))
  case atStart => exact ⟨0, 0, 0, _, rfl, rfl, rfl, rfl, by omega, by omega, Lib.hid rfl, Lib.hid rfl, List.length_replicate, Lib.hid (Mkd.start N), K3⟩
  case round =>
    clear K3
    obtain ⟨i, ct, cc, D, hg, rfl, rfl, rfl, hct, hcc, hF, hS, hD, hM, K⟩ := hrel
    have hiN : i ≤ N := by omega
    replace hg := Lib.hid hg
    have b0 : wr.cell? ⟨b, 0, none⟩ = some (.slice (some ⟨gj, oj, none⟩) N cj) := K.out.at4.cellOf 0 rfl
    rcases Nat.lt_or_ge i N with hlt | hlt
    · have hi0 : (0 : Int) ≤ (i : Int) := by omega
      have hi1 : (i : Int) < (N : Int) := by omega
      have hwi : IntKind.i64.wrap ((i : Int) + 1) = ((i + 1 : Nat) : Int) := by rw [IntWalk.i64_in _ (by omega)]; omega
      obtain ⟨z, hz⟩ : ∃ z, zs[i]? = some z := ⟨_, List.getElem?_eq_getElem (by have := hN.out; omega)⟩
      have hzN := hok.out.node z (List.mem_of_getElem? hz)
      have htc := tcount_par hzN
      have hpz := hzN.par
      have hz4 := hzN.few
      have hF1 := Lib.hid (fst0_step hz)
      have hS1 := Lib.hid (csum_step hz)
      have hU1 := Lib.hid (Uin_all hz)
      have hM0 : Hid (Mkd (Uin zs i z 0) D) := by show Mkd _ _; rw [Uin_zero]; exact hM.out
      clear hM
      obtain ⟨I, hI⟩ : ∃ I, z.2.length = I := ⟨_, rfl⟩
      rw [hI] at hS1 hU1 hz4
      have ZS : Hid (∀ w', Hs W w' [Old W] → w'.cell? ⟨gj, oj + i * 10 + 1, none⟩ = some z.sl ∧ w'.cell? ⟨gj, oj + i * 10 + 2, none⟩ = some (.int .i64 z.par) ∧ RdL (Enc.num .i64) w' z.sl z.2) := fun w' h => by
        have h1 := JJ.out w' h
        have h2 := h1.cells hz
        exact ⟨h2.2.1, h2.2.2.1, h1.2 _ (List.mem_of_getElem? hz)⟩
      obtain ⟨sa, sc, hsl⟩ : ∃ A c, z.sl = .slice A z.2.length c := (ZS.out wr K.out.tail.tail.tail.tail.tail).2.2.form
      rw [hI] at hsl
      rw [hsl] at ZS
      have hsc := (ZS.out wr K.out.tail.tail.tail.tail.tail).2.2.caps.2
      obtain ⟨pr, hpr⟩ : ∃ p, z.par = p := ⟨_, rfl⟩
      rw [hpr] at ZS hpz htc
      obtain ⟨tp, rfl⟩ := Int.eq_ofNat_of_zero_le (show 0 ≤ pr by omega)
      have htp : tcount z = tp := by omega
      rw [htp] at hF1
      have hwt : IntKind.i64.wrap ((ct : Int) + (tp : Int)) = ((ct + tp : Nat) : Int) := by rw [IntWalk.i64_in _ (by omega)]; omega
      obtain ⟨c1, c2, _⟩ := ZS.out wr K.out.tail.tail.tail.tail.tail
      replace hI := Lib.hid hI
      replace hz := Lib.hid hz
      replace hpr := Lib.hid hpr
      clear htc htp hzN
      go_wp2_with fail
      clear b0 c1 c2
      go_loopg [5, 8] I (fun k cv jv wr => ∃ (a cd : Nat) (D : List Bool), k + a = I ∧ cv = .int .i64 cd ∧ jv = .int .i64 a ∧ cd ≤ 64 * i + 16 * a ∧ Hid (cc + isum zs i z a = cd) ∧ Hid (D.length = N) ∧ Hid (Mkd (Uin zs i z a) D) ∧ Hid (Hs W wr (Ls Enc.flag 4 (.slice (some ⟨gd, 0, none⟩) N N) D :: Blk p (.cells #[.slice AT nT cT, .slice AC nC cC] 30) :: Ls ETask 42 (.slice AT nT cT) T :: Ls EChn 40 (.slice AC nC cC) Cs :: Blk b (.cells #[.slice (some ⟨gj, oj, none⟩) N cj] 24) :: [Old W])))
      case atStart => exact ⟨0, cc, D, rfl, rfl, rfl, by omega, Lib.hid rfl, hD, hM0, K⟩
      case round =>
        clear K hD hM0
        obtain ⟨a, cd, D, hga, rfl, rfl, hcd, hS2, hD, hM, K⟩ := hrel
        have haI : a ≤ I := by omega
        replace hga := Lib.hid hga
        have b0 : wr.cell? ⟨b, 0, none⟩ = some (.slice (some ⟨gj, oj, none⟩) N cj) := K.out.at4.cellOf 0 rfl
        obtain ⟨c1, c2, hins⟩ := ZS.out wr K.out.tail.tail.tail.tail.tail
        rcases Nat.lt_or_ge a I with hlt | hlt
        · have ha0 : (0 : Int) ≤ (a : Int) := by omega
          have ha1 : (a : Int) < (I : Int) := by omega
          have hwa : IntKind.i64.wrap ((a : Int) + 1) = ((a + 1 : Nat) : Int) := by rw [IntWalk.i64_in _ (by omega)]; omega
          obtain ⟨gs, os, rfl⟩ := hins.some_ (by have := hI.out; omega)
          obtain ⟨v, hv⟩ : ∃ r, z.2[a]? = some r := ⟨_, List.getElem?_eq_getElem (by have := hI.out; omega)⟩
          obtain ⟨q, y, rfl, hy⟩ := node_at ((hok.out.node z (List.mem_of_getElem? hz.out)).ins v (List.mem_of_getElem? hv))
          have s0 : wr.cell? ⟨gs, os + a, none⟩ = some (.int .i64 q) := by have := hins.cell hv 0 rfl; simpa [Enc.num] using this
          have hq : q < N := by have := (List.getElem?_eq_some_iff.1 hy).1; have := hN.out; omega
          have hpy := (hok.out.node y (List.mem_of_getElem? hy)).par
          have y2 := ((JJ.out wr K.out.tail.tail.tail.tail.tail).cells hy).2.2.1
          have hst := isum_step hok.out hz.out hv hy
          have hcb := @cost_le zs i y.par z.par hpy (by rw [hpr.out]; exact hpz)
          have hU := Lib.hid (Uin_step (zs := zs) (i := i) hv)
          rw [hpr.out] at hst hcb
          obtain ⟨py, hpe⟩ : ∃ p, y.par = p := ⟨_, rfl⟩
          rw [hpe] at hst hcb y2 hpy
          have hmul := @cost_bd zs i py tp hpy hpz
          have hwm : IntKind.i64.wrap (py * (tp : Int)) = py * (tp : Int) := IntWalk.i64_in _ (by omega)
          obtain ⟨d, hd⟩ : ∃ d : Nat, costOf zs i py tp = (d : Int) := ⟨_, (Int.toNat_of_nonneg hcb.1).symm⟩
          rw [hd] at hst hcb
          have hst2 : Hid (isum zs i z (a + 1) = isum zs i z a + d) := by show _ = _; omega
          have hwd : IntKind.i64.wrap ((cd : Int) + (d : Int)) = ((cd + d : Nat) : Int) := by rw [IntWalk.i64_in _ (by omega)]; omega
          have hq0 : (0 : Int) ≤ (q : Int) := by omega
          have hq1 : (q : Int) < (N : Int) := by omega
          replace hy := Lib.hid hy
          replace hd := Lib.hid hd
          replace hmul := Lib.hid hmul
          have hd16 : d ≤ 16 := by omega
          replace hv := Lib.hid hv
          clear hst hins hcb hpe
          go_upto_region 16 with (fail)
          go_quiet (fail)
          have K2 := Lib.hid (K.out.drewN nq)
          clear b0 c1 c2 s0 y2 K
          generalize World.drewN wr nq = w7 at K2 ⊢
          have b0 : w7.cell? ⟨b, 0, none⟩ = some (.slice (some ⟨gj, oj, none⟩) N cj) := K2.out.at4.cellOf 0 rfl
          obtain ⟨c1, c2, hins⟩ := ZS.out w7 K2.out.tail.tail.tail.tail.tail
          have s0 : w7.cell? ⟨gs, os + a, none⟩ = some (.int .i64 q) := by have := hins.cell hv.out 0 rfl; simpa [Enc.num] using this
          have f0 := K2.out.ls_frozen q
          obtain ⟨u, hu⟩ : ∃ u, D[q]? = some u := ⟨_, List.getElem?_eq_getElem (by rw [hD.out]; exact hq)⟩
          have d0 : w7.cell? ⟨gd, q, none⟩ = some (.bool u) := by have := K2.out.ls_rd.cell hu 0 rfl; simpa [Enc.flag] using this
          have K4 := Lib.hid (K2.out.ls_set0 rfl q hq true (.bool true) rfl)
          have hM2 : Hid (Mkd (Uin zs i z (a + 1)) (D.set q true)) := by show Mkd _ _; rw [hU.out]; exact hM.out.step q
          have hD2 : Hid ((D.set q true).length = N) := by show _ = _; rw [List.length_set]; exact hD.out
          clear hu hins K2 hM hU
          go_upto_region 17 with (fail)
          clear b0 c1 c2 s0 f0 d0
          generalize World.setCell w7 _ _ = w8 at K4 ⊢
          generalize D.set q true = D2 at K4 hM2 hD2
          have b0 : w8.cell? ⟨b, 0, none⟩ = some (.slice (some ⟨gj, oj, none⟩) N cj) := K4.out.at4.cellOf 0 rfl
          go_wp2_with fail
          refine (keyed18 _ zs w8 W _ K4.out (JJ.out _ K4.out.tail.tail.tail.tail.tail) (i : Int)).mono ?_
          rintro e w9 ⟨rfl, K5⟩
          replace K5 := Lib.hid K5
          clear K4 b0
          have b0 : w9.cell? ⟨b, 0, none⟩ = some (.slice (some ⟨gj, oj, none⟩) N cj) := K5.out.at4.cellOf 0 rfl
          obtain ⟨c1, c2, _⟩ := ZS.out w9 K5.out.tail.tail.tail.tail.tail
          have hcost : Hid ((if (keyed zs i || py != (tp : Int)) = true then py * (tp : Int) else py) = (d : Int)) := hd.out
          clear hd
          obtain ⟨κ, hκ⟩ : ∃ κ, keyed zs i = κ := ⟨_, rfl⟩
          rw [hκ] at hcost ⊢
          clear hκ
          have hS3 : Hid (cc + isum zs i z (a + 1) = cd + d) := by show _ = _; have := hS2.out; have := hst2.out; omega
          cases κ with
          | true =>
            have hpd : py * (tp : Int) = (d : Int) := hcost.out
            rw [hpd] at hwm
            clear hcost
            go_wp2_with fail
            go_roundg (I - (a + 1))
            case measure => have := hga.out; omega
            case rel => exact ⟨a + 1, cd + d, D2, by have := hga.out; omega, by go_num, by go_num, by omega, hS3, hD2, hM2, K5⟩
          | false =>
            cases hpp : (py != (tp : Int)) with
            | true =>
              have hpd : py * (tp : Int) = (d : Int) := by have := hcost.out; rw [hpp] at this; exact this
              rw [hpd] at hwm
              clear hcost
              go_wp2_with fail
              go_roundg (I - (a + 1))
              case measure => have := hga.out; omega
              case rel => exact ⟨a + 1, cd + d, D2, by have := hga.out; omega, by go_num, by go_num, by omega, hS3, hD2, hM2, K5⟩
            | false =>
              have hpd : py = (d : Int) := by have := hcost.out; rw [hpp] at this; exact this
              rw [hpd] at hwm hpp ⊢
              clear hcost
              go_wp2_with fail
              go_roundg (I - (a + 1))
              case measure => have := hga.out; omega
              case rel => exact ⟨a + 1, cd + d, D2, by have := hga.out; omega, by go_num, by go_num, by omega, hS3, hD2, hM2, K5⟩
        · have ha1 : decide ((a : Int) < (I : Int)) = false := by rw [decide_eq_false_iff_not]; omega
          have ha2 : decide (a < I) = false := by rw [decide_eq_false_iff_not]; omega
          obtain rfl : a = I := by omega
          have hF2 : Hid (fst0 zs (i + 1) = ct + tp) := by show _ = _; rw [hF1.out, hF.out]
          have hS3 : Hid (csum zs (i + 1) = cd) := by show _ = _; rw [hS1.out, hS.out]; exact hS2.out
          have hM2 : Hid (Mkd ((zs.take (i + 1)).flatMap (·.2)) D) := by show Mkd _ _; rw [← hU1.out]; exact hM.out
          clear hlt hins hM
          go_wp2_with fail
          go_roundg (N - (i + 1))
          case measure => have := hg.out; omega
          case rel => exact ⟨i + 1, ct + tp, cd, D, by have := hg.out; omega, by go_num, by go_num, by go_num, by omega, by omega, hF2, hS3, hD, hM2, K⟩
    · have hi1 : decide ((i : Int) < (N : Int)) = false := by rw [decide_eq_false_iff_not]; omega
      have hi2 : decide (i < N) = false := by rw [decide_eq_false_iff_not]; omega
      obtain rfl : N = i := by omega
      obtain rfl : nT = ct := by have := hF.out; have h2 := fst0_all zs; rw [hN.out, hT.out, hnT.out] at h2; omega
      obtain rfl : nC = cc := by have := hS.out; have h2 := csum_all zs; rw [hN.out, hC.out, hnC.out] at h2; omega
      have hM2 : Hid (Mkd (zs.flatMap (·.2)) D) := by have := hM.out; rwa [List.take_of_length_le (by rw [hN.out]; omega)] at this
      clear hM hF hS hlt
      have p0 : wr.cell? ⟨p, 0, none⟩ = some (.slice AT nT cT) := K.out.at1.cellOf 0 rfl
      have p1 : wr.cell? ⟨p, 1, none⟩ = some (.slice AC nC cC) := K.out.at1.cellOf 1 rfl
      go_wp2_with fail
      clear p0 p1 b0
      have hT48 : nT ≤ 48 := by omega
      have hC768 : nC ≤ 768 := by omega
      clear hct hcc
      go_loopg [10] nC (fun k iv wr => ∃ (j : Nat), k + j = nC ∧ iv = .int .i64 j ∧ Hid (Hs W wr (Ls Enc.flag 4 (.slice (some ⟨gd, 0, none⟩) N N) D :: Blk p (.cells #[.slice AT nT cT, .slice AC nC cC] 30) :: Ls ETask 42 (.slice AT nT cT) T :: Ls EChn 40 (.slice AC nC cC) Cs :: Blk b (.cells #[.slice (some ⟨gj, oj, none⟩) N cj] 24) :: [Old W])))
      case atStart => exact ⟨0, rfl, rfl, K⟩
      case round =>
        clear K
        obtain ⟨j, hgj, rfl, K⟩ := hrel
        have hjC : j ≤ nC := by omega
        replace hgj := Lib.hid hgj
        have p1 : wr.cell? ⟨p, 1, none⟩ = some (.slice AC nC cC) := K.out.at1.cellOf 1 rfl
        rcases Nat.lt_or_ge j nC with hlt | hlt
        · have hj0 : (0 : Int) ≤ (j : Int) := by omega
          have hj1 : (j : Int) < (nC : Int) := by omega
          have hwj : IntKind.i64.wrap ((j : Int) + 1) = ((j + 1 : Nat) : Int) := by rw [IntWalk.i64_in _ (by omega)]; omega
          obtain ⟨c, hc⟩ : ∃ c, Cs[j]? = some c := ⟨_, List.getElem?_eq_getElem (by have := hnC.out; omega)⟩
          obtain ⟨f, t, i, a, m, z, u, v, rfl, hTf, hTt, hz, ha, hm⟩ := chans_in (zs := zs) (by rw [hC.out]; exact List.mem_of_getElem? hc)
          rw [hT.out] at hTf hTt
          obtain ⟨gc, oc, rfl⟩ := K.out.at3.ls_rd.some_ (by have := hnC.out; omega)
          obtain ⟨gt, ot, rfl⟩ := K.out.at2.ls_rd.some_ (by have := (List.getElem?_eq_some_iff.1 hTf).1; omega)
          have hf1 := (List.getElem?_eq_some_iff.1 hTf).1
          have ht1 := (List.getElem?_eq_some_iff.1 hTt).1
          have hi1 := (List.getElem?_eq_some_iff.1 hz).1
          rw [hnT.out] at hf1 ht1
          rw [hN.out] at hi1 hm
          have e0 : wr.cell? ⟨gc, oc + j * 3, none⟩ = some (.int .i64 f) := K.out.at3.ls_rd.cell hc 0 rfl
          have e1 : wr.cell? ⟨gc, oc + j * 3 + 1, none⟩ = some (.int .i64 t) := K.out.at3.ls_rd.cell hc 1 rfl
          have e2 : wr.cell? ⟨gc, oc + j * 3 + 2, none⟩ = some (.int .i64 a) := K.out.at3.ls_rd.cell hc 2 rfl
          have K2 := Lib.hid (K.out.alloc (.cells #[.int .i64 f, .int .i64 t, .int .i64 a] 40))
          clear hc
          go_upto_region 26 with (fail)
          clear e0 e1 e2 p1 K
          generalize World.alloc wr _ = w1 at K2 ⊢
          generalize wr.heap.size = bx at K2 ⊢
          have x0 : w1.cell? ⟨bx, 0, none⟩ = some (.int .i64 f) := K2.out.cellOf 0 rfl
          have x1 : w1.cell? ⟨bx, 1, none⟩ = some (.int .i64 t) := K2.out.cellOf 1 rfl
          have b0 : w1.cell? ⟨b, 0, none⟩ = some (.slice (some ⟨gj, oj, none⟩) N cj) := K2.out.at5.cellOf 0 rfl
          have p0 : w1.cell? ⟨p, 0, none⟩ = some (.slice (some ⟨gt, ot, none⟩) nT cT) := K2.out.at2.cellOf 0 rfl
          have t0 : w1.cell? ⟨gt, ot + t * 2, none⟩ = some (.int .i64 i) := K2.out.at3.ls_rd.cell hTt 0 rfl
          have ZS : Hid (∀ w', Hs W w' [Old W] → w'.cell? ⟨gj, oj + i * 10 + 1, none⟩ = some z.sl ∧ RdL (Enc.num .i64) w' z.sl z.2) := fun w' h => by
            have h1 := JJ.out w' h
            have h2 := h1.cells hz
            exact ⟨h2.2.1, h1.2 _ (List.mem_of_getElem? hz)⟩
          obtain ⟨sa, sc, hsl⟩ : ∃ A c, z.sl = .slice A z.2.length c := (ZS.out w1 K2.out.tail.tail.tail.tail.tail.tail).2.form
          have ha1 := (List.getElem?_eq_some_iff.1 ha).1
          obtain ⟨I, hI⟩ : ∃ I, z.2.length = I := ⟨_, rfl⟩
          rw [hI] at hsl ha1
          rw [hsl] at ZS
          obtain ⟨c1, hins⟩ := ZS.out w1 K2.out.tail.tail.tail.tail.tail.tail
          obtain ⟨gs, os, rfl⟩ := hins.some_ (by omega)
          replace hTf := Lib.hid hTf
          replace ha := Lib.hid ha
          clear hins hTt hz hsl
          have hf0 : decide ((f : Int) < 0) = false := by rw [decide_eq_false_iff_not]; omega
          have hf2 : decide ((nT : Int) ≤ (f : Int)) = false := by rw [decide_eq_false_iff_not]; omega
          have hf3 : decide (nT ≤ f) = false := by rw [decide_eq_false_iff_not]; omega
          have ht0 : decide ((t : Int) < 0) = false := by rw [decide_eq_false_iff_not]; omega
          have ht2 : decide ((nT : Int) ≤ (t : Int)) = false := by rw [decide_eq_false_iff_not]; omega
          have ht3 : decide (nT ≤ t) = false := by rw [decide_eq_false_iff_not]; omega
          have ht4 : (0 : Int) ≤ (t : Int) := by omega
          have ht5 : (t : Int) < (nT : Int) := by omega
          have hi4 : (0 : Int) ≤ (i : Int) := by omega
          have hi5 : (i : Int) < (N : Int) := by omega
          go_upto_region 28 with (fail)
          go_quiet (fail)
          have K3 := Lib.hid (K2.out.drewN nq)
          clear x0 x1 b0 p0 t0 c1 K2
          generalize World.drewN w1 nq = w2 at K3 ⊢
          have x0 : w2.cell? ⟨bx, 0, none⟩ = some (.int .i64 f) := K3.out.cellOf 0 rfl
          have x2 : w2.cell? ⟨bx, 2, none⟩ = some (.int .i64 a) := K3.out.cellOf 2 rfl
          have p0 : w2.cell? ⟨p, 0, none⟩ = some (.slice (some ⟨gt, ot, none⟩) nT cT) := K3.out.at2.cellOf 0 rfl
          have t0 : w2.cell? ⟨gt, ot + f * 2, none⟩ = some (.int .i64 m) := K3.out.at3.ls_rd.cell hTf.out 0 rfl
          have s0 : w2.cell? ⟨gs, os + a, none⟩ = some (.int .i64 m) := by have := (ZS.out w2 K3.out.tail.tail.tail.tail.tail.tail).2.cell ha.out 0 rfl; simpa [Enc.num] using this
          have ha0 : decide ((a : Int) < 0) = false := by rw [decide_eq_false_iff_not]; omega
          have ha2 : decide ((I : Int) ≤ (a : Int)) = false := by rw [decide_eq_false_iff_not]; omega
          have ha3 : decide (I ≤ a) = false := by rw [decide_eq_false_iff_not]; omega
          have ha4 : (0 : Int) ≤ (a : Int) := by omega
          have ha5 : (a : Int) < (I : Int) := by omega
          have hf4 : (0 : Int) ≤ (f : Int) := by omega
          have hf5 : (f : Int) < (nT : Int) := by omega
          go_wp2_with fail
          go_quiet (fail)
          go_wp2_with fail
          go_roundg (nC - (j + 1))
          case measure => have := hgj.out; omega
          case rel => exact ⟨j + 1, by have := hgj.out; omega, by go_num, Lib.hid (K3.out.tail.drewN nq)⟩
        · have hj1 : decide ((j : Int) < (nC : Int)) = false := by rw [decide_eq_false_iff_not]; omega
          have hj2 : decide (j < nC) = false := by rw [decide_eq_false_iff_not]; omega
          clear hlt hjC hgj
          go_wp2_with fail
          clear hj1 hj2 p1
          go_loopg [13] nT (fun k iv wr => ∃ (j : Nat), k + j = nT ∧ iv = .int .i64 j ∧ Hid (Hs W wr (Ls Enc.flag 4 (.slice (some ⟨gd, 0, none⟩) N N) D :: Blk p (.cells #[.slice AT nT cT, .slice AC nC cC] 30) :: Ls ETask 42 (.slice AT nT cT) T :: Ls EChn 40 (.slice AC nC cC) Cs :: Blk b (.cells #[.slice (some ⟨gj, oj, none⟩) N cj] 24) :: [Old W])))
          case atStart => exact ⟨0, rfl, rfl, K⟩
          case round =>
            clear K
            obtain ⟨j, hgj, rfl, K⟩ := hrel
            have hjT : j ≤ nT := by omega
            replace hgj := Lib.hid hgj
            rcases Nat.lt_or_ge j nT with hlt | hlt
            · have hj0 : (0 : Int) ≤ (j : Int) := by omega
              have hj1 : (j : Int) < (nT : Int) := by omega
              have hwj : IntKind.i64.wrap ((j : Int) + 1) = ((j + 1 : Nat) : Int) := by rw [IntWalk.i64_in _ (by omega)]; omega
              obtain ⟨x, hTj⟩ : ∃ c, T[j]? = some c := ⟨_, List.getElem?_eq_getElem (by have := hnT.out; omega)⟩
              obtain ⟨i, z, v, hz, hv, rfl⟩ := tasks_mem (zs := zs) (by rw [hT.out]; exact List.mem_of_getElem? hTj)
              obtain ⟨gt, ot, rfl⟩ := K.out.at2.ls_rd.some_ (by have := hnT.out; omega)
              have hi1 := (List.getElem?_eq_some_iff.1 hz).1
              rw [hN.out] at hi1
              have hi4 : (0 : Int) ≤ (i : Int) := by omega
              have hi5 : (i : Int) < (N : Int) := by omega
              have hto := to_pos hok.out (by rw [hT.out]; exact hTj) hz
              have hfr := from_pos hok.out (by rw [hT.out]; exact hTj) hz
              rw [hC.out] at hto hfr
              obtain ⟨u, hu⟩ : ∃ u, D[i]? = some u := ⟨_, List.getElem?_eq_getElem (by rw [hD.out]; exact hi1)⟩
              rw [← hM2.out i u hu] at hfr
              obtain ⟨nt, hnt⟩ : ∃ n, (toOf Cs (j : Int)).length = n := ⟨_, rfl⟩
              obtain ⟨nf, hnf⟩ : ∃ n, (fromOf Cs (j : Int)).length = n := ⟨_, rfl⟩
              rw [hnt] at hto
              rw [hnf] at hfr
              have ZS : Hid (∀ w', Hs W w' [Old W] → w'.cell? ⟨gj, oj + i * 10, none⟩ = some (.int .i64 z.kind)) := fun w' h => ((JJ.out w' h).cells hz).1
              obtain ⟨kd, hkd⟩ : ∃ k, z.kind = k := ⟨_, rfl⟩
              rw [hkd] at ZS hto
              have p0 : wr.cell? ⟨p, 0, none⟩ = some (.slice (some ⟨gt, ot, none⟩) nT cT) := K.out.at1.cellOf 0 rfl
              have t0 : wr.cell? ⟨gt, ot + j * 2, none⟩ = some (.int .i64 i) := K.out.at2.ls_rd.cell hTj 0 rfl
              obtain ⟨κ, hκ⟩ : ∃ κ, (kd != 1) = κ := ⟨_, rfl⟩
              have h1 : decide ((0 : Int) < (nt : Int)) = κ := by
                rw [← hκ]
                by_cases h : kd = 1
                · have : ¬ 0 < nt := fun h2 => hto.1 h2 h
                  subst h
                  rw [decide_eq_false (by omega)]
                  rfl
                · have : 0 < nt := hto.2 h
                  rw [decide_eq_true (by omega)]
                  symm
                  simpa using h
              have h2 : decide ((0 : Int) < (nf : Int)) = u := by
                cases u with
                | true => exact decide_eq_true (by have := hfr.2 rfl; omega)
                | false => exact decide_eq_false (by intro h; have := hfr.1 (by omega); cases this)
              have h3 : decide (0 < nt) = κ := by rw [← h1, decide_eq_decide]; omega
              have h4 : decide (0 < nf) = u := by rw [← h2, decide_eq_decide]; omega
              have SS : Hid (∀ w', Hs W w' (Ls Enc.flag 4 (.slice (some ⟨gd, 0, none⟩) N N) D :: Blk p (.cells #[.slice (some ⟨gt, ot, none⟩) nT cT, .slice AC nC cC] 30) :: Ls ETask 42 (.slice (some ⟨gt, ot, none⟩) nT cT) T :: Ls EChn 40 (.slice AC nC cC) Cs :: Blk b (.cells #[.slice (some ⟨gj, oj, none⟩) N cj] 24) :: [Old W]) → w'.cell? ⟨b, 0, none⟩ = some (.slice (some ⟨gj, oj, none⟩) N cj) ∧ w'.cell? ⟨p, 0, none⟩ = some (.slice (some ⟨gt, ot, none⟩) nT cT) ∧ w'.cell? ⟨p, 1, none⟩ = some (.slice AC nC cC) ∧ w'.cell? ⟨gj, oj + i * 10, none⟩ = some (.int .i64 kd) ∧ w'.cell? ⟨gd, i, none⟩ = some (.bool u)) :=
                fun w' h => ⟨h.at4.cellOf 0 rfl, h.at1.cellOf 0 rfl, h.at1.cellOf 1 rfl, ZS.out w' h.tail.tail.tail.tail.tail, by have := h.ls_rd.cell hu 0 rfl; simpa [Enc.flag] using this⟩
              clear hto hfr hTj hz hu ZS
              go_upto_region 35 with (fail)
              clear p0 t0
              have K0 := Lib.hid K.out
              clear K
              cases κ with
              | true =>
                replace h1 : (0 : Int) < (nt : Int) := of_decide_eq_true h1
                replace h3 : 0 < nt := of_decide_eq_true h3
                cases u with
                | true =>
                  replace h2 : (0 : Int) < (nf : Int) := of_decide_eq_true h2
                  replace h4 : 0 < nf := of_decide_eq_true h4
                  go_region_held3 (fun w' => w'.cell? ⟨b, 0, none⟩ = some (.slice (some ⟨gj, oj, none⟩) N cj) ∧ w'.cell? ⟨p, 0, none⟩ = some (.slice (some ⟨gt, ot, none⟩) nT cT) ∧ w'.cell? ⟨p, 1, none⟩ = some (.slice AC nC cC) ∧ w'.cell? ⟨gj, oj + i * 10, none⟩ = some (.int .i64 kd) ∧ w'.cell? ⟨gd, i, none⟩ = some (.bool true))
                    (first | exact SS.out _ K0.out.drew | exact SS.out _ K1.tail | exact SS.out _ K2.tail)
                    (first
                      | (go_at_call 16; refine (to16 (.slice (some ⟨gt, ot, none⟩) nT cT) (.slice AC nC cC) Cs (j : Int) _ W _ K0.out.drew (fun w' h => h.at3.ls_rd) (by have := hnC.out; omega)).mono ?_; rw [hnt]; rintro e w6 ⟨A6, c6, rfl, K1⟩)
                      | (go_at_call 14; refine (from14 (.slice (some ⟨gt, ot, none⟩) nT cT) (.slice AC nC cC) Cs (j : Int) _ W _ K1.tail (fun w' h => h.at3.ls_rd) (by have := hnC.out; omega)).mono ?_; rw [hnf]; rintro e w7 ⟨A7, c7, rfl, K2⟩))
                  replace K2 := Lib.hid K2.tail
                  clear SS K0 K1
                  go_wp2_with fail
                  go_roundg (nT - (j + 1))
                  case measure => have := hgj.out; omega
                  case rel => exact ⟨j + 1, by have := hgj.out; omega, by go_num, K2⟩
                | false =>
                  go_region_held3 (fun w' => w'.cell? ⟨b, 0, none⟩ = some (.slice (some ⟨gj, oj, none⟩) N cj) ∧ w'.cell? ⟨p, 0, none⟩ = some (.slice (some ⟨gt, ot, none⟩) nT cT) ∧ w'.cell? ⟨p, 1, none⟩ = some (.slice AC nC cC) ∧ w'.cell? ⟨gj, oj + i * 10, none⟩ = some (.int .i64 kd) ∧ w'.cell? ⟨gd, i, none⟩ = some (.bool false))
                    (first | exact SS.out _ K0.out.drew | exact SS.out _ K1.tail | exact SS.out _ K2.tail)
                    (first
                      | (go_at_call 16; refine (to16 (.slice (some ⟨gt, ot, none⟩) nT cT) (.slice AC nC cC) Cs (j : Int) _ W _ K0.out.drew (fun w' h => h.at3.ls_rd) (by have := hnC.out; omega)).mono ?_; rw [hnt]; rintro e w6 ⟨A6, c6, rfl, K1⟩)
                      | (go_at_call 14; refine (from14 (.slice (some ⟨gt, ot, none⟩) nT cT) (.slice AC nC cC) Cs (j : Int) _ W _ K1.tail (fun w' h => h.at3.ls_rd) (by have := hnC.out; omega)).mono ?_; rw [hnf]; rintro e w7 ⟨A7, c7, rfl, K2⟩))
                  replace K2 := Lib.hid K2.tail
                  clear SS K0 K1
                  go_wp2_with fail
                  go_roundg (nT - (j + 1))
                  case measure => have := hgj.out; omega
                  case rel => exact ⟨j + 1, by have := hgj.out; omega, by go_num, K2⟩
              | false =>
                cases u with
                | true =>
                  replace h2 : (0 : Int) < (nf : Int) := of_decide_eq_true h2
                  replace h4 : 0 < nf := of_decide_eq_true h4
                  go_region_held3 (fun w' => w'.cell? ⟨b, 0, none⟩ = some (.slice (some ⟨gj, oj, none⟩) N cj) ∧ w'.cell? ⟨p, 0, none⟩ = some (.slice (some ⟨gt, ot, none⟩) nT cT) ∧ w'.cell? ⟨p, 1, none⟩ = some (.slice AC nC cC) ∧ w'.cell? ⟨gj, oj + i * 10, none⟩ = some (.int .i64 kd) ∧ w'.cell? ⟨gd, i, none⟩ = some (.bool true))
                    (first | exact SS.out _ K0.out.drew | exact SS.out _ K1.tail | exact SS.out _ K2.tail)
                    (first
                      | (go_at_call 16; refine (to16 (.slice (some ⟨gt, ot, none⟩) nT cT) (.slice AC nC cC) Cs (j : Int) _ W _ K0.out.drew (fun w' h => h.at3.ls_rd) (by have := hnC.out; omega)).mono ?_; rw [hnt]; rintro e w6 ⟨A6, c6, rfl, K1⟩)
                      | (go_at_call 14; refine (from14 (.slice (some ⟨gt, ot, none⟩) nT cT) (.slice AC nC cC) Cs (j : Int) _ W _ K1.tail (fun w' h => h.at3.ls_rd) (by have := hnC.out; omega)).mono ?_; rw [hnf]; rintro e w7 ⟨A7, c7, rfl, K2⟩))
                  replace K2 := Lib.hid K2.tail
                  clear SS K0 K1
                  go_wp2_with fail
                  go_roundg (nT - (j + 1))
                  case measure => have := hgj.out; omega
                  case rel => exact ⟨j + 1, by have := hgj.out; omega, by go_num, K2⟩
                | false =>
                  go_region_held3 (fun w' => w'.cell? ⟨b, 0, none⟩ = some (.slice (some ⟨gj, oj, none⟩) N cj) ∧ w'.cell? ⟨p, 0, none⟩ = some (.slice (some ⟨gt, ot, none⟩) nT cT) ∧ w'.cell? ⟨p, 1, none⟩ = some (.slice AC nC cC) ∧ w'.cell? ⟨gj, oj + i * 10, none⟩ = some (.int .i64 kd) ∧ w'.cell? ⟨gd, i, none⟩ = some (.bool false))
                    (first | exact SS.out _ K0.out.drew | exact SS.out _ K1.tail | exact SS.out _ K2.tail)
                    (first
                      | (go_at_call 16; refine (to16 (.slice (some ⟨gt, ot, none⟩) nT cT) (.slice AC nC cC) Cs (j : Int) _ W _ K0.out.drew (fun w' h => h.at3.ls_rd) (by have := hnC.out; omega)).mono ?_; rw [hnt]; rintro e w6 ⟨A6, c6, rfl, K1⟩)
                      | (go_at_call 14; refine (from14 (.slice (some ⟨gt, ot, none⟩) nT cT) (.slice AC nC cC) Cs (j : Int) _ W _ K1.tail (fun w' h => h.at3.ls_rd) (by have := hnC.out; omega)).mono ?_; rw [hnf]; rintro e w7 ⟨A7, c7, rfl, K2⟩))
                  replace K2 := Lib.hid K2.tail
                  clear SS K0 K1
                  go_wp2_with fail
                  go_roundg (nT - (j + 1))
                  case measure => have := hgj.out; omega
                  case rel => exact ⟨j + 1, by have := hgj.out; omega, by go_num, K2⟩
            · have hj1 : decide ((j : Int) < (nT : Int)) = false := by rw [decide_eq_false_iff_not]; omega
              have hj2 : decide (j < nT) = false := by rw [decide_eq_false_iff_not]; omega
              clear hlt
              go_wp2_with fail
              go_ret
              exact ⟨rfl, K.out.tail.tail.tail.tail.tail.under_old⟩
end Go.Proofs.Ytbifajiigpalhaa

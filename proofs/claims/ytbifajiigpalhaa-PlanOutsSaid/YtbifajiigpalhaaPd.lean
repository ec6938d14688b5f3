import Derived.Test.YtbifajiigpalhaaPc
import Derived.Test.YtbifajiigpalhaaPn
import Derived.IntWalk
import Derived.Test.YtbifajiigpalhaaProg
import Derived.Test.YtbifajiigpalhaaLs
import Derived.Outline
import Derived.StillTailTactics
import Derived.Deep.DeepCutAuto
import Derived.Deep.CutBlock
import Derived.Deep.LoopGhost
import Derived.Deep.QuietTactic
import Derived.BigQuiet
import Derived.Deep.RegionHeld3
import Derived.Deep.RegionLaw
set_option linter.unusedVariables false
set_option linter.unusedSimpArgs false
namespace Go.Proofs.Ytbifajiigpalhaa
open Go.RowKit
def nodeOf (T : List (Int × Int)) (k : Int) : Int := match T[k.toNat]? with | some x => x.1 | none => 0
def chnAt (Cs : List (Int × Int × Int)) (d : Int) : Int × Int × Int := match Cs[d.toNat]? with | some c => c | none => (0, 0, 0)
def sameP (T : List (Int × Int)) (Cs : List (Int × Int × Int)) (x : Int × Int × Int) (d : Int) : Bool := nodeOf T (chnAt Cs d).2.1 == nodeOf T x.2.1 && (chnAt Cs d).2.2 == x.2.2
def homeP (zs : List Nd) (T : List (Int × Int)) (key : Int) (x : Int × Int × Int) : Bool := partG (group key) (parOf zs (nodeOf T x.2.1)) == partOf T x.2.1
def out1 (zs : List Nd) (T : List (Int × Int)) (Cs : List (Int × Int × Int)) (key : Int) (all : List Int) (c : Int) : List Int :=
  if (((all.countP (sameP T Cs (chnAt Cs c)) : Nat) : Int) == 1 || homeP zs T key (chnAt Cs c)) = true then [c] else []
def outsOf (zs : List Nd) (T : List (Int × Int)) (Cs : List (Int × Int × Int)) (t key : Int) : List Int := (fromOf Cs t).flatMap (out1 zs T Cs key (fromOf Cs t))
/-- The channels lead to tasks, the tasks are of nodes. -/
structure PlanOk (zs : List Nd) (T : List (Int × Int)) (Cs : List (Int × Int × Int)) : Prop where
  cto : ∀ c ∈ Cs, 0 ≤ c.2.1 ∧ c.2.1 < (T.length : Int)
  tn : ∀ t ∈ T, isN zs.length t.1 = true
theorem chosen_in {α : Type} (p : α → Bool) (l : List α) : ∀ k ∈ chosen p l, 0 ≤ k ∧ k < (l.length : Int) := by
  intro k hk
  unfold chosen at hk
  rw [List.mem_flatMap] at hk
  obtain ⟨x, hx, hk⟩ := hk
  split at hk
  · rw [List.mem_singleton] at hk
    subst hk
    have := List.snd_lt_of_mem_zipIdx hx
    omega
  · cases hk
theorem countP_step {α : Type} (p : α → Bool) (l : List α) (j : Nat) (x : α) (hx : l[j]? = some x) : (l.take (j + 1)).countP p = (l.take j).countP p + if p x then 1 else 0 := by
  rw [List.take_add_one, hx, List.countP_append]
  show _ + List.countP p [x] = _
  rw [List.countP_cons, List.countP_nil, Nat.zero_add]
set_option maxRecDepth 100000 in
set_option maxHeartbeats 4000000 in
theorem outs20 (jv tv cv : Value) (zs : List Nd) (T : List (Int × Int)) (Cs : List (Int × Int × Int)) (t key : Int) (w w0 : World) (R : List HP) (H : Hs w0 w R) (hj : ∀ w', Hs w0 w' R → JobR w' jv zs) (hT : ∀ w', Hs w0 w' R → RdL ETask w' tv T) (hC : ∀ w', Hs w0 w' R → RdL EChn w' cv Cs)
    (hok : PlanOk zs T Cs) (hl : Cs.length ≤ 1000000) :
    Calls Try.prog 20 #[.agg #[jv], .agg #[tv, cv], .int .i64 t, .int .i64 key] w fun e w' => ∃ A c, e = .returned (.slice A (outsOf zs T Cs t key).length c) ∧ Hs w0 w' (Ls (Enc.num .i64) 3 (.slice A (outsOf zs T Cs t key).length c) (outsOf zs T Cs t key) :: R) := by
  obtain ⟨Aj, cj, hv⟩ := (hj w H).form
  subst hv
  obtain ⟨At, ct, hv⟩ := (hT w H).form
  subst hv
  obtain ⟨Ac, cc, hv⟩ := (hC w H).form
  subst hv
  have hct := (hT w H).caps.2
  have hcc := (hC w H).caps.2
  have K := (H.alloc (.cells #[.slice Aj zs.length cj] 24)).alloc (.cells #[.slice At T.length ct, .slice Ac Cs.length cc] 30)
  rw [show (w.alloc (.cells #[.slice Aj zs.length cj] 24)).heap.size = w.heap.size + 1 from Array.size_push ..] at K
  replace K := Lib.hid K
  replace hj := Lib.hid hj
  replace hT := Lib.hid hT
  replace hC := Lib.hid hC
  replace hok := Lib.hid hok
  replace hl := Lib.hid hl
  clear H
  go_enter Try.func20, Try.ntmps20
  go_upto_region 1 with (fail)
  generalize World.alloc _ _ = w1 at K ⊢
  generalize w.heap.size + 1 = bp at K ⊢
  generalize w.heap.size = bj at K ⊢
  have b0 : w1.cell? ⟨bp, 0, none⟩ = some (.slice At T.length ct) := K.out.cellOf 0 rfl
  have b1 : w1.cell? ⟨bp, 1, none⟩ = some (.slice Ac Cs.length cc) := K.out.cellOf 1 rfl
  go_wp2_with fail
  refine (from14 (.slice At T.length ct) (.slice Ac Cs.length cc) Cs t w1 w0 _ K.out (fun w' h => hC.out _ h.tail.tail) hl.out).mono ?_
  rintro e w2 ⟨Af, cf, rfl, K2⟩
  clear K b0 b1
  have hin := Lib.hid (chosen_in (fun x : Int × Int × Int => x.1 == t) Cs)
  have hal : (fromOf Cs t).length ≤ Cs.length := chosen_len _ _
  have hout : outsOf zs T Cs t key = (fromOf Cs t).flatMap (out1 zs T Cs key (fromOf Cs t)) := rfl
  obtain ⟨all, hall⟩ : ∃ l, fromOf Cs t = l := ⟨_, rfl⟩
  rw [hall] at K2 hal hout ⊢
  have hin2 : Hid (∀ k ∈ all, 0 ≤ k ∧ k < (Cs.length : Int)) := by show ∀ _ ∈ _, _; rw [← hall]; exact hin.out
  clear hin hall
  obtain ⟨n, hn⟩ : ∃ n, all.length = n := ⟨_, rfl⟩
  rw [hn] at K2 hal ⊢
  have hcf := K2.ls_rd.caps.2
  have hn6 : n ≤ 1000000 := by have := hl.out; omega
  replace hn := Lib.hid hn
  have K3 := Lib.hid (K2.ls_nil (Enc.num .i64) 3)
  clear K2 hal
  obtain ⟨F, hF⟩ : ∃ F, out1 zs T Cs key all = F := ⟨_, rfl⟩
  rw [hF] at hout
  replace hout := Lib.hid hout
  replace hF := Lib.hid hF
  have hfl : Hid (∀ j, j ≤ n → ((all.take j).flatMap F).length ≤ j) := fun j hj => by
    have := flatMap_len F (all.take j) 1 (fun x _ => by rw [← hF.out]; unfold out1; split <;> simp)
    have h2 := List.length_take_le j all
    omega
  go_wp2_with fail
  go_loopg [24, 9] n (fun g iv ov wr => ∃ (j m : Nat) (A : Option Addr) (c : Nat), g + j = n ∧ iv = .int .i64 j ∧ ov = .slice A m c ∧ Hid (((all.take j).flatMap F).length = m) ∧
    Hid (Hs w0 wr (Ls (Enc.num .i64) 3 (.slice A m c) ((all.take j).flatMap F) :: Ls (Enc.num .i64) 3 (.slice Af n cf) all :: Blk bp (.cells #[.slice At T.length ct, .slice Ac Cs.length cc] 30) :: Blk bj (.cells #[.slice Aj zs.length cj] 24) :: R)))
  case atStart => exact ⟨0, 0, none, 0, rfl, rfl, rfl, Lib.hid rfl, K3⟩
  case round =>
    clear K3
    obtain ⟨j, m, A, c, hg, rfl, rfl, hm, H⟩ := hrel
    have hjn : j ≤ n := by omega
    replace hg := Lib.hid hg
    rcases Nat.lt_or_ge j n with hlt | hlt
    · have hj0 : (0 : Int) ≤ (j : Int) := by omega
      have hj2 : (j : Int) < (n : Int) := by omega
      obtain ⟨g, off, rfl⟩ := H.out.at1.ls_rd.some_ (by have := hn.out; omega)
      obtain ⟨x, hx⟩ : ∃ x, all[j]? = some x := ⟨_, List.getElem?_eq_getElem (by have := hn.out; omega)⟩
      have hst : Hid ((all.take (j + 1)).flatMap F = (all.take j).flatMap F ++ F x) := fm_step F all j x hx
      obtain ⟨hx0, hx1⟩ := hin2.out x (List.mem_of_getElem? hx)
      obtain ⟨d, rfl⟩ := Int.eq_ofNat_of_zero_le hx0
      have s0 : wr.cell? ⟨g, off + j, none⟩ = some (.int .i64 d) := by have := H.out.at1.ls_rd.cell hx 0 rfl; simpa [Enc.num] using this
      have hd : d < Cs.length := by omega
      obtain ⟨⟨c0, c1, c2⟩, hc⟩ : ∃ y, Cs[d]? = some y := ⟨_, List.getElem?_eq_getElem hd⟩
      obtain ⟨gc, oc, rfl⟩ := (hC.out _ H.out.tail.tail.tail.tail).some_ (by omega)
      have b1 : wr.cell? ⟨bp, 1, none⟩ = some (.slice (some ⟨gc, oc, none⟩) Cs.length cc) := H.out.at2.cellOf 1 rfl
      have e0 : wr.cell? ⟨gc, oc + d * 3, none⟩ = some (.int .i64 c0) := (hC.out _ H.out.tail.tail.tail.tail).cell hc 0 rfl
      have e1 : wr.cell? ⟨gc, oc + d * 3 + 1, none⟩ = some (.int .i64 c1) := (hC.out _ H.out.tail.tail.tail.tail).cell hc 1 rfl
      have e2 : wr.cell? ⟨gc, oc + d * 3 + 2, none⟩ = some (.int .i64 c2) := (hC.out _ H.out.tail.tail.tail.tail).cell hc 2 rfl
      have hat : Hid (chnAt Cs (d : Int) = (c0, c1, c2)) := by show _ = _; unfold chnAt; rw [Int.toNat_natCast, hc]
      obtain ⟨ht0, ht1⟩ := hok.out.cto _ (List.mem_of_getElem? hc)
      dsimp only at ht0 ht1
      obtain ⟨tt, rfl⟩ := Int.eq_ofNat_of_zero_le ht0
      have htt : tt < T.length := by omega
      obtain ⟨⟨nd, pt⟩, hto⟩ : ∃ y, T[tt]? = some y := ⟨_, List.getElem?_eq_getElem htt⟩
      have hnd := hok.out.tn _ (List.mem_of_getElem? hto)
      dsimp only at hnd
      have hat2 : Hid (nodeOf T (tt : Int) = nd ∧ partOf T (tt : Int) = pt) := by unfold nodeOf partOf; rw [Int.toNat_natCast, hto]; exact ⟨rfl, rfl⟩
      clear hx hc hx0 hd
      have hF1 : Hid (F (d : Int) = if ((((all.countP (sameP T Cs (c0, (tt : Int), c2)) : Nat) : Int) == 1) || (partG (group key) (parOf zs nd) == pt)) = true then [(d : Int)] else []) := by
        show _ = _
        rw [← hF.out]
        unfold out1 homeP
        rw [hat.out]
        dsimp only
        rw [hat2.out.1, hat2.out.2]
      have hnz := hnd
      unfold isN at hnz
      simp only [Bool.and_eq_true, decide_eq_true_eq] at hnz
      obtain ⟨mz, rfl⟩ := Int.eq_ofNat_of_zero_le hnz.1
      obtain ⟨z, hz⟩ : ∃ z, zs[mz]? = some z := ⟨_, List.getElem?_eq_getElem (by omega)⟩
      have hpar : Hid (parOf zs (mz : Int) = z.par) := by show _ = _; unfold parOf; rw [Int.toNat_natCast, hz]
      have hmz0 : (0 : Int) ≤ (mz : Int) := hnz.1
      have hmz1 : (mz : Int) < (zs.length : Int) := hnz.2
      obtain ⟨gj, oj, rfl⟩ := (hj.out _ H.out.tail.tail.tail.tail).1.some_ (by rw [List.length_map]; omega)
      obtain ⟨gt, ot, rfl⟩ := (hT.out _ H.out.tail.tail.tail.tail).some_ (by omega)
      clear hnz
      replace hnd := Lib.hid hnd
      replace hto := Lib.hid hto
      replace hz := Lib.hid hz
      have hd1 : decide ((tt : Int) < 0) = false := by rw [decide_eq_false_iff_not]; omega
      have hd2 : decide ((T.length : Int) ≤ (tt : Int)) = false := by rw [decide_eq_false_iff_not]; omega
      have hd3 : decide (T.length ≤ tt) = false := by rw [decide_eq_false_iff_not]; omega
      have K := Lib.hid (H.out.alloc (.cells #[.int .i64 c0, .int .i64 tt, .int .i64 c2] 40))
      go_upto_region 7 with (fail)
      clear s0 b1 e0 e1 e2 H
      generalize World.alloc wr _ = w1 at K ⊢
      generalize wr.heap.size = bx at K ⊢
      have SS : Hid (∀ w', Hs w0 w' (Blk bx (.cells #[.int .i64 c0, .int .i64 tt, .int .i64 c2] 40 (0, 0)) :: Ls (Enc.num .i64) 3 (.slice A m c) ((all.take j).flatMap F) :: Ls (Enc.num .i64) 3 (.slice (some ⟨g, off, none⟩) n cf) all :: Blk bp (.cells #[.slice (some ⟨gt, ot, none⟩) T.length ct, .slice (some ⟨gc, oc, none⟩) Cs.length cc] 30 (0, 0)) :: Blk bj (.cells #[.slice (some ⟨gj, oj, none⟩) zs.length cj] 24 (0, 0)) :: R) →
          w'.cell? ⟨bx, 1, none⟩ = some (.int .i64 tt) ∧ w'.cell? ⟨bp, 0, none⟩ = some (.slice (some ⟨gt, ot, none⟩) T.length ct) ∧ w'.cell? ⟨bj, 0, none⟩ = some (.slice (some ⟨gj, oj, none⟩) zs.length cj) ∧ w'.cell? ⟨gt, ot + tt * 2, none⟩ = some (.int .i64 mz)) :=
        fun w' h => ⟨h.cellOf 1 rfl, h.at3.cellOf 0 rfl, h.at4.cellOf 0 rfl, (hT.out _ h.tail.tail.tail.tail.tail).cell hto.out 0 rfl⟩
      go_region_held3 (fun w' => w'.cell? ⟨bx, 1, none⟩ = some (.int .i64 tt) ∧ w'.cell? ⟨bp, 0, none⟩ = some (.slice (some ⟨gt, ot, none⟩) T.length ct) ∧ w'.cell? ⟨bj, 0, none⟩ = some (.slice (some ⟨gj, oj, none⟩) zs.length cj) ∧ w'.cell? ⟨gt, ot + tt * 2, none⟩ = some (.int .i64 mz))
        (first | exact SS.out _ K.out.drew | exact SS.out _ K1)
        (first
          | (go_at_call 29; refine (is29 (.slice (some ⟨gj, oj, none⟩) zs.length cj) zs _ w0 _ K.out.drew (hj.out _ K.out.drew.tail.tail.tail.tail.tail) mz).mono ?_; rw [hnd.out]; rintro e w6 ⟨rfl, K1, hwo⟩; clear hwo))
      replace K1 := Lib.hid K1
      clear K SS
      have p0 : w6.cell? ⟨bp, 0, none⟩ = some (.slice (some ⟨gt, ot, none⟩) T.length ct) := K1.out.at3.cellOf 0 rfl
      have x1 : w6.cell? ⟨bx, 1, none⟩ = some (.int .i64 tt) := K1.out.cellOf 1 rfl
      have t0 : w6.cell? ⟨gt, ot + tt * 2, none⟩ = some (.int .i64 mz) := (hT.out _ K1.out.tail.tail.tail.tail.tail).cell hto.out 0 rfl
      have t1 : w6.cell? ⟨gt, ot + tt * 2 + 1, none⟩ = some (.int .i64 pt) := (hT.out _ K1.out.tail.tail.tail.tail.tail).cell hto.out 1 rfl
      have htt0 : (0 : Int) ≤ (tt : Int) := by omega
      go_upto_region 9 with (fail)
      have L := Lib.hid (K1.out.alloc (.cells #[.int .i64 mz, .int .i64 pt] 42))
      clear p0 x1 t0 t1 K1
      generalize World.alloc w6 _ = w7 at L ⊢
      generalize w6.heap.size = by_ at L ⊢
      obtain ⟨P, hP⟩ : ∃ P, sameP T Cs (c0, (tt : Int), c2) = P := ⟨_, rfl⟩
      rw [hP] at hF1
      replace hP := Lib.hid hP
      clear hat hd1 hd2 hd3
      go_wp2_with fail
      go_loopg [64, 15] n (fun g2 iv sv wr => ∃ (i q : Nat), g2 + i = n ∧ iv = .int .i64 i ∧ sv = .int .i64 q ∧ q ≤ i ∧ Hid ((all.take i).countP P = q) ∧ Hid (Hs w0 wr (Blk by_ (.cells #[.int .i64 mz, .int .i64 pt] 42 (0, 0)) :: Blk bx (.cells #[.int .i64 c0, .int .i64 tt, .int .i64 c2] 40 (0, 0)) :: Ls (Enc.num .i64) 3 (.slice A m c) ((all.take j).flatMap F) :: Ls (Enc.num .i64) 3 (.slice (some ⟨g, off, none⟩) n cf) all :: Blk bp (.cells #[.slice (some ⟨gt, ot, none⟩) T.length ct, .slice (some ⟨gc, oc, none⟩) Cs.length cc] 30 (0, 0)) :: Blk bj (.cells #[.slice (some ⟨gj, oj, none⟩) zs.length cj] 24 (0, 0)) :: R)))
      case atStart => exact ⟨0, 0, rfl, rfl, rfl, Nat.le_refl _, Lib.hid rfl, L⟩
      case round =>
        clear L
        obtain ⟨i, q, hg2, rfl, rfl, hqi, hcp, L⟩ := hrel
        have hin : i ≤ n := by omega
        replace hg2 := Lib.hid hg2
        rcases Nat.lt_or_ge i n with hli | hli
        · have hi0 : (0 : Int) ≤ (i : Int) := by omega
          have hi2 : (i : Int) < (n : Int) := by omega
          obtain ⟨x, hx⟩ : ∃ x, all[i]? = some x := ⟨_, List.getElem?_eq_getElem (by have := hn.out; omega)⟩
          have hst2 : Hid ((all.take (i + 1)).countP P = (all.take i).countP P + if P x then 1 else 0) := countP_step P all i x hx
          obtain ⟨hx0, hx1⟩ := hin2.out x (List.mem_of_getElem? hx)
          obtain ⟨d2, rfl⟩ := Int.eq_ofNat_of_zero_le hx0
          have s0 : wr.cell? ⟨g, off + i, none⟩ = some (.int .i64 d2) := by have := L.out.at3.ls_rd.cell hx 0 rfl; simpa [Enc.num] using this
          have hd : d2 < Cs.length := by omega
          obtain ⟨⟨a0, a1, a2⟩, hc⟩ : ∃ y, Cs[d2]? = some y := ⟨_, List.getElem?_eq_getElem hd⟩
          have b1 : wr.cell? ⟨bp, 1, none⟩ = some (.slice (some ⟨gc, oc, none⟩) Cs.length cc) := L.out.at4.cellOf 1 rfl
          have hR := L.out.tail.tail.tail.tail.tail.tail
          have e0 : wr.cell? ⟨gc, oc + d2 * 3, none⟩ = some (.int .i64 a0) := (hC.out _ hR).cell hc 0 rfl
          have e1 : wr.cell? ⟨gc, oc + d2 * 3 + 1, none⟩ = some (.int .i64 a1) := (hC.out _ hR).cell hc 1 rfl
          have e2 : wr.cell? ⟨gc, oc + d2 * 3 + 2, none⟩ = some (.int .i64 a2) := (hC.out _ hR).cell hc 2 rfl
          obtain ⟨hu0, hu1⟩ := hok.out.cto _ (List.mem_of_getElem? hc)
          dsimp only at hu0 hu1
          obtain ⟨t2, rfl⟩ := Int.eq_ofNat_of_zero_le hu0
          have hut : t2 < T.length := by omega
          obtain ⟨⟨n2, p2⟩, hto2⟩ : ∃ y, T[t2]? = some y := ⟨_, List.getElem?_eq_getElem hut⟩
          have hPx : Hid (P (d2 : Int) = ((n2 == (mz : Int)) && (a2 == c2))) := by
            show _ = _
            rw [← hP.out]
            unfold sameP
            rw [show chnAt Cs (d2 : Int) = (a0, (t2 : Int), a2) by unfold chnAt; rw [Int.toNat_natCast, hc]]
            dsimp only
            rw [hat2.out.1, show nodeOf T (t2 : Int) = n2 by unfold nodeOf; rw [Int.toNat_natCast, hto2]]
          replace hto2 := Lib.hid hto2
          clear hx hc hx0 hd hR
          go_upto_region 14 with (fail)
          have M := Lib.hid (L.out.alloc (.cells #[.int .i64 a0, .int .i64 t2, .int .i64 a2] 40))
          clear s0 b1 e0 e1 e2 L
          generalize World.alloc wr _ = w8 at M ⊢
          generalize wr.heap.size = bz at M ⊢
          have z1 : w8.cell? ⟨bz, 1, none⟩ = some (.int .i64 t2) := M.out.cellOf 1 rfl
          have z2 : w8.cell? ⟨bz, 2, none⟩ = some (.int .i64 a2) := M.out.cellOf 2 rfl
          have y2 : w8.cell? ⟨bx, 2, none⟩ = some (.int .i64 c2) := M.out.at2.cellOf 2 rfl
          have p0 : w8.cell? ⟨bp, 0, none⟩ = some (.slice (some ⟨gt, ot, none⟩) T.length ct) := M.out.at5.cellOf 0 rfl
          have t0 : w8.cell? ⟨gt, ot + t2 * 2, none⟩ = some (.int .i64 n2) := (hT.out _ M.out.tail.tail.tail.tail.tail.tail.tail).cell hto2.out 0 rfl
          have t1 : w8.cell? ⟨by_, 0, none⟩ = some (.int .i64 mz) := M.out.at1.cellOf 0 rfl
          have M2 := Lib.hid M.out.tail
          clear M
          have hw8 : IntKind.i64.wrap ((q : Int) + 1) = ((q + 1 : Nat) : Int) := by rw [IntWalk.i64_in _ (by omega)]; omega
          cases hb1 : (n2 == (mz : Int)) with
          | false =>
            have hs3 : Hid ((all.take (i + 1)).countP P = q) := by show _ = _; rw [hst2.out, hPx.out, hb1, hcp.out]; rfl
            clear hst2 hPx
            go_quiet (fail)
            go_wp2_with fail
            go_roundg (n - (i + 1))
            case measure => have := hg2.out; omega
            case rel => exact ⟨i + 1, q, by have := hg2.out; omega, by go_num, rfl, by omega, hs3, Lib.hid (M2.out.drewN nq)⟩
          | true =>
            cases hb2 : (a2 == c2) with
            | false =>
              have hs3 : Hid ((all.take (i + 1)).countP P = q) := by show _ = _; rw [hst2.out, hPx.out, hb1, hb2, hcp.out]; rfl
              clear hst2 hPx
              go_quiet (fail)
              go_wp2_with fail
              go_roundg (n - (i + 1))
              case measure => have := hg2.out; omega
              case rel => exact ⟨i + 1, q, by have := hg2.out; omega, by go_num, rfl, by omega, hs3, Lib.hid (M2.out.drewN nq)⟩
            | true =>
              have hs3 : Hid ((all.take (i + 1)).countP P = q + 1) := by show _ = _; rw [hst2.out, hPx.out, hb1, hb2, hcp.out]; rfl
              clear hst2 hPx
              go_quiet (fail)
              go_wp2_with fail
              go_roundg (n - (i + 1))
              case measure => have := hg2.out; omega
              case rel => exact ⟨i + 1, q + 1, by have := hg2.out; omega, by go_num, by first | rfl | rw [hw8], by omega, hs3, Lib.hid (M2.out.drewN nq)⟩
        · have hi1 : decide ((i : Int) < (n : Int)) = false := by rw [decide_eq_false_iff_not]; omega
          have hi2 : decide (i < n) = false := by rw [decide_eq_false_iff_not]; omega
          have hal2 : all.take i = all := List.take_of_length_le (by rw [hn.out]; exact hli)
          rw [hal2] at hcp
          rw [hcp.out] at hF1
          clear hal2 hli
          go_wp2_with fail
          obtain ⟨yes, hyes⟩ : ∃ b, ((q : Int) == 1 || partG (group key) (parOf zs (mz : Int)) == pt) = b := ⟨_, rfl⟩
          rw [hyes] at hF1
          rw [hpar.out] at hyes
          replace hyes := Lib.hid hyes
          go_cut [122] (fun bv wx => bv = .bool yes ∧ Hid (Hs w0 wx (Blk by_ (.cells #[.int .i64 mz, .int .i64 pt] 42 (0, 0)) :: Blk bx (.cells #[.int .i64 c0, .int .i64 tt, .int .i64 c2] 40 (0, 0)) :: Ls (Enc.num .i64) 3 (.slice A m c) ((all.take j).flatMap F) :: Ls (Enc.num .i64) 3 (.slice (some ⟨g, off, none⟩) n cf) all :: Blk bp (.cells #[.slice (some ⟨gt, ot, none⟩) T.length ct, .slice (some ⟨gc, oc, none⟩) Cs.length cc] 30 (0, 0)) :: Blk bj (.cells #[.slice (some ⟨gj, oj, none⟩) zs.length cj] 24 (0, 0)) :: R)))
          case first =>
            cases hq1 : ((q : Int) == 1) with
            | true =>
              have hy : yes = true := by rw [← hyes.out, hq1]; rfl
              replace hy := Lib.hid hy
              go_quiet (fail)
              go_wp2_with fail
              go_meet
              case rel => exact ⟨by rw [hy.out], Lib.hid (L.out.drewN nq)⟩
            | false =>
              have hy : Hid (yes = (partG (group key) z.par == pt)) := by show _ = _; rw [← hyes.out, hq1]; rfl
              have SS : Hid (∀ w', Hs w0 w' (Blk by_ (.cells #[.int .i64 mz, .int .i64 pt] 42 (0, 0)) :: Blk bx (.cells #[.int .i64 c0, .int .i64 tt, .int .i64 c2] 40 (0, 0)) :: Ls (Enc.num .i64) 3 (.slice A m c) ((all.take j).flatMap F) :: Ls (Enc.num .i64) 3 (.slice (some ⟨g, off, none⟩) n cf) all :: Blk bp (.cells #[.slice (some ⟨gt, ot, none⟩) T.length ct, .slice (some ⟨gc, oc, none⟩) Cs.length cc] 30 (0, 0)) :: Blk bj (.cells #[.slice (some ⟨gj, oj, none⟩) zs.length cj] 24 (0, 0)) :: R) → w'.cell? ⟨bj, 0, none⟩ = some (.slice (some ⟨gj, oj, none⟩) zs.length cj) ∧ w'.cell? ⟨by_, 0, none⟩ = some (.int .i64 mz) ∧ w'.cell? ⟨by_, 1, none⟩ = some (.int .i64 pt) ∧ w'.cell? ⟨gj, oj + mz * 10 + 2, none⟩ = some (.int .i64 z.par)) :=
                fun w' h => ⟨h.at5.cellOf 0 rfl, h.cellOf 0 rfl, h.cellOf 1 rfl, ((hj.out _ h.tail.tail.tail.tail.tail.tail).cells hz.out).2.2.1⟩
              go_region_held3 (fun w' => w'.cell? ⟨bj, 0, none⟩ = some (.slice (some ⟨gj, oj, none⟩) zs.length cj) ∧ w'.cell? ⟨by_, 0, none⟩ = some (.int .i64 mz) ∧ w'.cell? ⟨by_, 1, none⟩ = some (.int .i64 pt) ∧ w'.cell? ⟨gj, oj + mz * 10 + 2, none⟩ = some (.int .i64 z.par))
                (exact SS.out _ L.out.drew)
                (first
                  | (go_at_call 22; refine (group22 key _).mono ?_; rintro e w9 ⟨rfl, rfl⟩)
                  | (go_at_call 24; refine (part24 (group key) z.par _).mono ?_; rintro e w9 ⟨rfl, rfl⟩))
              go_wp2_with fail
              go_meet
              case rel => exact ⟨by rw [hy.out], Lib.hid L.out.drew⟩
          case rest =>
            obtain ⟨rfl, L2⟩ := hcut
            clear L
            have hmj : m ≤ j := by have := hm.out; have := hfl.out j hjn; omega
            cases yes with
            | true =>
              have hs2 : Hid ((all.take (j + 1)).flatMap F = (all.take j).flatMap F ++ [(d : Int)]) := by show _ = _; rw [hst.out, hF1.out]; rfl
              have L3 := Lib.hid L2.out.at2
              clear hst hF1 L2
              go_wp2_with (at_builtin; refine wpList_append1N (E := Enc.num .i64) m hm.out rfl (.tmp 123) (.tmp 125) 34 rfl 3 _ 1 8 Try.underlying34 infoI rfl (by decide) (by decide) rfl rfl rfl (by simp) L3.out (d : Int) (by omega) ?_)
              intro A5 c5 w5 K4
              rw [← hs2.out] at K4
              replace K4 := Lib.hid K4.at1.tail.at1.tail
              clear L3
              go_wp2_with fail
              go_roundg (n - (j + 1))
              case measure => have := hg.out; omega
              case rel => exact ⟨j + 1, m + 1, A5, c5, by have := hg.out; omega, by go_num, by first | rfl | simp, by show _ = _; rw [hs2.out, List.length_append, hm.out]; rfl, K4⟩
            | false =>
              have hs2 : Hid ((all.take (j + 1)).flatMap F = (all.take j).flatMap F) := by show _ = _; rw [hst.out, hF1.out]; exact List.append_nil _
              clear hst hF1
              go_wp2_with fail
              go_roundg (n - (j + 1))
              case measure => have := hg.out; omega
              case rel => exact ⟨j + 1, m, A, c, by have := hg.out; omega, by go_num, rfl, by show _ = _; rw [hs2.out]; exact hm.out, by rw [hs2.out]; exact Lib.hid L2.out.tail.tail⟩
    · have hj1 : decide ((j : Int) < (n : Int)) = false := by rw [decide_eq_false_iff_not]; omega
      have hj2 : decide (j < n) = false := by rw [decide_eq_false_iff_not]; omega
      have hal : all.take j = all := List.take_of_length_le (by rw [hn.out]; assumption)
      rw [hal] at hm H
      clear hal hlt
      go_wp2_with fail
      go_ret
      rw [hout.out, hm.out]
      exact ⟨A, c, rfl, H.out.at1.tail.at1.tail.at1.tail⟩
end Go.Proofs.Ytbifajiigpalhaa

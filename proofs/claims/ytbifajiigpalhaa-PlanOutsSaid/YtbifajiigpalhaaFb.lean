import Derived.Test.YtbifajiigpalhaaCa
import Derived.Test.YtbifajiigpalhaaFa
import Derived.Test.YtbifajiigpalhaaPe
import Derived.IntWalk
import Derived.Laws.MakeOwn
import Derived.Test.YtbifajiigpalhaaProg
import Derived.Test.YtbifajiigpalhaaLs
import Derived.Outline
import Derived.StillTailTactics
import Derived.Deep.DeepCutAuto
import Derived.Deep.CutBlock
import Derived.Deep.LoopGhost
import Derived.Deep.QuietTactic
import Derived.BigQuiet
import Derived.Deep.RegionHeld3
import Derived.Deep.RegionLaw
set_option linter.unusedVariables false
set_option linter.unusedSimpArgs false
namespace Go.Proofs.Ytbifajiigpalhaa
open Go.RowKit
/-- The reference's way of an input's channels. -/
def rch1 (al : Bool) (F1 F2 a f : Nat) (t : Nat) : List (Int × Int × Int) := if (al || (f : Int) == (t : Int)) = true then [(((F1 + f : Nat) : Int), ((F2 + t : Nat) : Int), (a : Int))] else []
def rch2 (al : Bool) (F1 F2 a p : Nat) (f : Nat) : List (Int × Int × Int) := (List.range p).flatMap (rch1 al F1 F2 a f)
theorem chn3_ref {zs : List Nd} (hok : JobOk zs) {i m a : Nat} {z y : Nd} (hz : zs[i]? = some z) (hy : zs[m]? = some y) : chn3 zs (tasks zs) i z ((m : Int), a) = (List.range (tcount y)).flatMap (rch2 (keyed zs i || y.par != z.par) (fst0 zs m) (fst0 zs i) a (tcount z)) := by
  have hm := (List.getElem?_eq_some_iff.1 hy).1
  have hi : isN zs.length (m : Int) = true := by unfold isN; simp; omega
  unfold chn3
  dsimp only
  rw [if_pos hi, parOf_at hy, chosen_tasks hy, List.flatMap_map]
  apply flatMap_cg
  intro f hf
  rw [List.mem_range] at hf
  unfold chn2 rch2
  rw [chosen_tasks hz, List.flatMap_map]
  apply flatMap_cg
  intro t ht
  rw [List.mem_range] at ht
  unfold chn1 rch1
  rw [partOf_at (tasks_at hy hf), partOf_at (tasks_at hz ht)]
theorem fst0_next {zs : List Nd} {i : Nat} {z : Nd} (hz : zs[i]? = some z) : fst0 zs (i + 1) = fst0 zs i + tcount z := by
  unfold fst0
  rw [List.take_add_one, hz, List.map_append, List.sum_append]
  simp
theorem fst0_le {zs : List Nd} : ∀ i, fst0 zs i ≤ 4 * i := by
  intro i
  induction i with
  | zero => exact Nat.le_refl _
  | succ i ih =>
    cases hz : zs[i]? with
    | some z => rw [fst0_next hz]; have := tcount_le z; omega
    | none =>
      have h := List.getElem?_eq_none_iff.1 hz
      have e : fst0 zs (i + 1) = fst0 zs i := by unfold fst0; rw [List.take_of_length_le (by omega), List.take_of_length_le h]
      omega
theorem tasks_take (zs : List Nd) (j : Nat) (hj : j ≤ zs.length) : ((zs.zipIdx.take j).flatMap fun x : Nd × Nat => (List.range (tcount x.1)).flatMap fun k : Nat => [((x.2 : Int), (k : Int))]).length = fst0 zs j := by
  induction j with
  | zero => rfl
  | succ j ih =>
    have hx : zs[j]? = some zs[j] := List.getElem?_eq_getElem (by omega)
    rw [fm_step _ _ j _ (zipIdx_get zs j _ hx), List.length_append, ih (by omega), fst0_next hx]
    congr 1
    exact blk_len j zs[j]
set_option maxRecDepth 100000 in
set_option maxHeartbeats 8000000 in
theorem refmake11 (jv : Value) (zs : List Nd) (w w0 : World) (R : List HP) (H : Hs w0 w R) (hj : ∀ w', Hs w0 w' R → JobR w' jv zs) (hok : JobOk zs) :
    Calls Try.prog 11 #[.agg #[jv]] w fun e w' => ∃ A c A2 c2, e = .returned (.agg #[.slice A (tasks zs).length c, .slice A2 (chans zs).length c2]) ∧ Hs w0 w' (Ls ETask 42 (.slice A (tasks zs).length c) (tasks zs) :: Ls EChn 40 (.slice A2 (chans zs).length c2) (chans zs) :: R) := by
  obtain ⟨Aj, cj, hv⟩ := (hj w H).form
  subst hv
  have hcj := (hj w H).1.caps.2
  obtain ⟨gj, oj, rfl⟩ := (hj w H).1.some_ (by rw [List.length_map]; exact hok.pos)
  have sz1 : (w.alloc (.cells #[.slice (some ⟨gj, oj, none⟩) zs.length cj] 24)).heap.size = w.heap.size + 1 := Array.size_push ..
  have K := ((H.alloc (.cells #[.slice (some ⟨gj, oj, none⟩) zs.length cj] 24)).alloc (.cells #[.slice none 0 0, .slice none 0 0] 30)).alloc (.cells #[.slice none 0 0, .slice none 0 0] 30)
  rw [show ((w.alloc (.cells #[.slice (some ⟨gj, oj, none⟩) zs.length cj] 24)).alloc (.cells #[.slice none 0 0, .slice none 0 0] 30)).heap.size = w.heap.size + 1 + 1 from (Array.size_push ..).trans (by rw [sz1])] at K
  rw [sz1] at K
  clear sz1
  replace K := Lib.hid K
  clear H
  obtain ⟨N, hN⟩ : ∃ N, zs.length = N := ⟨_, rfl⟩
  have hN12 := hok.few
  rw [hN] at K hj hcj hN12 ⊢
  replace hN := Lib.hid hN
  replace hj := Lib.hid hj
  replace hok := Lib.hid hok
  have hmk : ∀ w, (Instr.makeSlice 34 (.int .i64 (N : Int)) (.int .i64 (N : Int))).run Try.prog w = .ok (.slice (some ⟨w.heap.size, 0, none⟩) N N) (w.alloc (.cells (madeCells #[.int .i64 0] N) 3)) := run_make_row' (P := Try.prog) 34 3 (.int .i64 0) 8 Try.underlying34 infoI rfl .i64 .i64 N (by omega) (by omega)
  go_enter Try.func11, Try.ntmps11
  go_upto_region 2 with (fail)
  generalize World.alloc _ _ = w1 at K ⊢
  generalize w.heap.size + 1 + 1 = bp at K ⊢
  generalize w.heap.size + 1 = br at K ⊢
  generalize w.heap.size = bj at K ⊢
  have b0 : w1.cell? ⟨bj, 0, none⟩ = some (.slice (some ⟨gj, oj, none⟩) N cj) := K.out.at2.cellOf 0 rfl
  go_wp2_with fail
  have K2 := Lib.hid ((K.out.ls_made (E := Enc.num .i64) 3 0 (.int .i64 0) rfl N (by omega)).ls_nil ETask 42).at2
  clear K b0 hmk
  generalize World.alloc w1 _ = w2 at K2 ⊢
  generalize w1.heap.size = gf at K2 ⊢
  obtain ⟨F, hF⟩ : ∃ F, (fun x : Nd × Nat => (List.range (tcount x.1)).flatMap fun k : Nat => [((x.2 : Int), (k : Int))]) = F := ⟨_, rfl⟩
  have hTK : Hid (∀ j, j ≤ N → ((zs.zipIdx.take j).flatMap F).length = fst0 zs j) := fun j h => by rw [← hF]; exact tasks_take zs j (by have := hN.out; omega)
  have hTS : Hid (∀ j z, zs[j]? = some z → (zs.zipIdx.take (j + 1)).flatMap F = (zs.zipIdx.take j).flatMap F ++ (List.range (tcount z)).flatMap fun k : Nat => [((j : Int), (k : Int))]) := fun j z h => by
    rw [fm_step F _ j _ (zipIdx_get zs j z h), ← hF]
  have htk : Hid (tasks zs = zs.zipIdx.flatMap F) := by show _ = _; rw [← hF]; rfl
  clear hF
  obtain ⟨L, hL⟩ : ∃ L, zs.zipIdx = L := ⟨_, rfl⟩
  have hLn : Hid (L.length = N) := by show _ = _; rw [← hL, List.length_zipIdx, hN.out]
  rw [hL] at hTK hTS htk
  replace hL := Lib.hid hL
  go_loopg [5] N (fun g iv wr => ∃ (j m : Nat) (A : Option Addr) (c : Nat) (fl : List Int), g + j = N ∧ iv = .int .i64 j ∧ Hid (((L.take j).flatMap F).length = m) ∧ Hid (fl.length = N) ∧ Hid (∀ i, i < j → fl[i]? = some (fst0 zs i : Int)) ∧
    Hid (Hs w0 wr (Blk bp (.cells #[.slice A m c, .slice none 0 0] 30) :: Ls ETask 42 (.slice A m c) ((L.take j).flatMap F) :: Ls (Enc.num .i64) 3 (.slice (some ⟨gf, 0, none⟩) N N) fl :: Blk br (.cells #[.slice none 0 0, .slice none 0 0] 30) :: Blk bj (.cells #[.slice (some ⟨gj, oj, none⟩) N cj] 24) :: R)))
  case atStart => exact ⟨0, 0, none, 0, _, rfl, rfl, Lib.hid rfl, List.length_replicate, (by show ∀ i, _ → _; intro i h; omega), K2⟩
  case round =>
    clear K2
    obtain ⟨j, m, A, c, fl, hg, rfl, hm, hfl, hff, K⟩ := hrel
    have hjn : j ≤ N := by omega
    replace hg := Lib.hid hg
    have b0 : wr.cell? ⟨bj, 0, none⟩ = some (.slice (some ⟨gj, oj, none⟩) N cj) := K.out.at4.cellOf 0 rfl
    rcases Nat.lt_or_ge j N with hlt | hlt
    · have hj0 : (0 : Int) ≤ (j : Int) := by omega
      have hj1 : (j : Int) < (N : Int) := by omega
      have hwj : IntKind.i64.wrap ((j : Int) + 1) = ((j + 1 : Nat) : Int) := by rw [IntWalk.i64_in _ (by omega)]; omega
      obtain ⟨z, hz⟩ : ∃ z, zs[j]? = some z := ⟨_, List.getElem?_eq_getElem (by have := hN.out; omega)⟩
      have hzN := hok.out.node z (List.mem_of_getElem? hz)
      have htc := tcount_par hzN
      have hst := Lib.hid (hTS.out j z hz)
      have ZS : Hid (∀ w', Hs w0 w' R → w'.cell? ⟨gj, oj + j * 10 + 2, none⟩ = some (.int .i64 z.par)) := fun w' h => ((hj.out w' h).cells hz).2.2.1
      obtain ⟨tp, htp⟩ : ∃ t, tcount z = t := ⟨_, rfl⟩
      have htp4 : tp ≤ 4 := by have := tcount_le z; omega
      rw [htp] at hst
      rw [show z.par = (tp : Int) by omega] at ZS
      have hmj : Hid (m = fst0 zs j) := by show _ = _; rw [← hm.out]; exact hTK.out j hjn
      have hm48 : m ≤ 48 := by have := hmj.out; have := @fst0_le zs j; omega
      obtain ⟨x0, hx0⟩ : ∃ x, fl[j]? = some x := ⟨_, List.getElem?_eq_getElem (by rw [hfl.out]; exact hlt)⟩
      have d0 : wr.cell? ⟨gf, j, none⟩ = some (.int .i64 x0) := by have := K.out.at2.ls_rd.cell hx0 0 rfl; simpa [Enc.num] using this
      have f0 := K.out.at2.ls_frozen j
      have p0 : wr.cell? ⟨bp, 0, none⟩ = some (.slice A m c) := K.out.cellOf 0 rfl
      have K2 := Lib.hid (K.out.at2.ls_set0 rfl j hlt (m : Int) (.int .i64 m) rfl)
      have hfl2 : Hid ((fl.set j (m : Int)).length = N) := by show _ = _; rw [List.length_set]; exact hfl.out
      have hff2 : Hid (∀ i, i < j + 1 → (fl.set j (m : Int))[i]? = some (fst0 zs i : Int)) := by
        show ∀ i, _ → _
        intro i hi
        rw [List.getElem?_set]
        split
        · rename_i e
          subst e
          rw [if_pos (by rw [hfl.out]; exact hlt), hmj.out]
        · exact hff.out i (by omega)
      clear hx0 hff hzN htc
      go_upto_region 7 with (fail)
      clear b0 d0 f0 p0 K
      generalize World.setCell wr _ _ = w3 at K2 ⊢
      generalize fl.set j (m : Int) = fl2 at K2 hfl2 hff2
      obtain ⟨X, hX⟩ : ∃ X, (L.take j).flatMap F = X := ⟨_, rfl⟩
      rw [hX] at hm K2 hst
      clear hX
      have K3 : Hid (Hs w0 w3 (Blk bp (.cells #[.slice A m c, .slice none 0 0] 30) :: Ls ETask 42 (.slice A m c) (X ++ ((List.range tp).take 0).flatMap fun k : Nat => [((j : Int), (k : Int))]) :: Ls (Enc.num .i64) 3 (.slice (some ⟨gf, 0, none⟩) N N) fl2 :: Blk br (.cells #[.slice none 0 0, .slice none 0 0] 30) :: Blk bj (.cells #[.slice (some ⟨gj, oj, none⟩) N cj] 24) :: R)) := by
        show Hs _ _ _
        rw [List.take_zero, List.flatMap_nil, List.append_nil]
        exact K2.out.at2.at2
      clear K2
      go_wp2_with fail
      go_loopg [6] tp (fun g2 iv wr => ∃ (k m2 : Nat) (A2 : Option Addr) (c2 : Nat), g2 + k = tp ∧ iv = .int .i64 k ∧ m2 = m + k ∧ Hid ((X ++ ((List.range tp).take k).flatMap fun k : Nat => [((j : Int), (k : Int))]).length = m2) ∧
        Hid (Hs w0 wr (Blk bp (.cells #[.slice A2 m2 c2, .slice none 0 0] 30) :: Ls ETask 42 (.slice A2 m2 c2) (X ++ ((List.range tp).take k).flatMap fun k : Nat => [((j : Int), (k : Int))]) :: Ls (Enc.num .i64) 3 (.slice (some ⟨gf, 0, none⟩) N N) fl2 :: Blk br (.cells #[.slice none 0 0, .slice none 0 0] 30) :: Blk bj (.cells #[.slice (some ⟨gj, oj, none⟩) N cj] 24) :: R)))
      case atStart => exact ⟨0, m, A, c, by omega, rfl, rfl, by show _ = _; rw [List.take_zero, List.flatMap_nil, List.append_nil]; exact hm.out, K3⟩
      case round =>
        clear K3
        obtain ⟨k, m2, A2, c2, hg2, rfl, hm2, hml, K3⟩ := hrel
        have hktp : k ≤ tp := by omega
        replace hg2 := Lib.hid hg2
        have hk4 : m2 ≤ 170 := by omega
        replace hm2 := Lib.hid hm2
        have b0 : wr.cell? ⟨bj, 0, none⟩ = some (.slice (some ⟨gj, oj, none⟩) N cj) := K3.out.at4.cellOf 0 rfl
        have c2_ := ZS.out wr K3.out.tail.tail.tail.tail.tail
        rcases Nat.lt_or_ge k tp with hk | hk
        · have hk0 : (0 : Int) ≤ (k : Int) := by omega
          have hk1 : (k : Int) < (tp : Int) := by omega
          have hw6 : IntKind.i64.wrap ((k : Int) + 1) = ((k + 1 : Nat) : Int) := by rw [IntWalk.i64_in _ (by omega)]; omega
          have hst2 : Hid (X ++ ((List.range tp).take (k + 1)).flatMap (fun k : Nat => [((j : Int), (k : Int))]) = (X ++ ((List.range tp).take k).flatMap fun k : Nat => [((j : Int), (k : Int))]) ++ [((j : Int), (k : Int))]) := by
            show _ = _
            rw [fm_step (fun k : Nat => [((j : Int), (k : Int))]) (List.range tp) k k (by rw [List.getElem?_range (by omega)]), List.append_assoc]
          obtain ⟨Y, hY⟩ : ∃ Y, (X ++ ((List.range tp).take k).flatMap fun k : Nat => [((j : Int), (k : Int))]) = Y := ⟨_, rfl⟩
          rw [hY] at hst2 hml K3
          clear hY
          have p0 : wr.cell? ⟨bp, 0, none⟩ = some (.slice A2 m2 c2) := K3.out.cellOf 0 rfl
          go_wp2_with (at_builtin; refine wpList_append1N (E := ETask) m2 hml.out rfl (.tmp 42) (.tmp 46) 27 rfl 42 _ 2 16 Try.underlying27 infoT rfl (by decide) (by decide) rfl rfl rfl (by simp) K3.out.at1 ((j : Int), (k : Int)) (by omega) ?_)
          intro A5 c5 w5 K4
          rw [← hst2.out] at K4
          have f0 := K4.at1.frozenOf 0
          have d0 := K4.at1.cellOf 0 rfl
          have K5 := Lib.hid (K4.at1.setCellTo 0 (.slice A5 (m2 + 1) c5) #[.slice A5 (m2 + 1) c5, .slice none 0 0] rfl)
          clear K3 K4 p0 b0 c2_
          go_wp2_with fail
          go_roundg (tp - (k + 1))
          case measure => have := hg2.out; omega
          case rel => exact ⟨k + 1, m2 + 1, A5, c5, by have := hg2.out; omega, by go_num, by have := hm2.out; omega, by show _ = _; rw [hst2.out, List.length_append, hml.out]; rfl, K5⟩
        · have hk1 : decide ((k : Int) < (tp : Int)) = false := by rw [decide_eq_false_iff_not]; omega
          have hk2 : decide (k < tp) = false := by rw [decide_eq_false_iff_not]; omega
          have hall : (List.range tp).take k = List.range tp := List.take_of_length_le (by rw [List.length_range]; omega)
          rw [hall, ← hst.out] at hml K3
          clear hk hall
          go_wp2_with fail
          go_roundg (N - (j + 1))
          case measure => have := hg.out; omega
          case rel => exact ⟨j + 1, m2, A2, c2, fl2, by have := hg.out; omega, by go_num, hml, hfl2, hff2, K3⟩
    · have hj1 : decide ((j : Int) < (N : Int)) = false := by rw [decide_eq_false_iff_not]; omega
      have hj2 : decide (j < N) = false := by rw [decide_eq_false_iff_not]; omega
      obtain rfl : N = j := by omega
      have hall : L.take N = L := List.take_of_length_le (by rw [hLn.out]; exact Nat.le_refl _)
      rw [hall, ← htk.out] at hm K
      obtain ⟨T, hT⟩ : ∃ T, tasks zs = T := ⟨_, rfl⟩
      rw [hT] at hm K
      replace hT := Lib.hid hT
      clear hlt hall htk hTS hTK
      go_wp2_with fail
      clear b0
      obtain ⟨G, hG⟩ : ∃ G, chn4 zs T = G := ⟨_, rfl⟩
      have hch : Hid (chans zs = L.flatMap G) := by show _ = _; rw [← hL.out, ← hG, ← hT.out]; rfl
      have hGS : Hid (∀ j z, zs[j]? = some z → (L.take (j + 1)).flatMap G = (L.take j).flatMap G ++ z.2.zipIdx.flatMap (chn3 zs T j z)) := fun j z h => by
        rw [← hL.out, fm_step G _ j _ (zipIdx_get zs j z h), ← hG]
        rfl
      clear hG
      have K2 := Lib.hid (K.out.ls_nil EChn 40).at1
      clear K hg hj1 hj2
      go_loopg [7] N (fun g iv wr => ∃ (j m2 : Nat) (A2 : Option Addr) (c2 : Nat), g + j = N ∧ iv = .int .i64 j ∧ Hid (((L.take j).flatMap G).length = m2) ∧ m2 ≤ 64 * j ∧ Hid (Hs w0 wr (Blk bp (.cells #[.slice A m c, .slice A2 m2 c2] 30 (0, 0)) :: Ls EChn 40 (.slice A2 m2 c2) ((L.take j).flatMap G) :: Ls ETask 42 (.slice A m c) T :: Ls (Enc.num .i64) 3 (.slice (some ⟨gf, 0, none⟩) N N) fl :: Blk br (.cells #[.slice none 0 0, .slice none 0 0] 30 (0, 0)) :: Blk bj (.cells #[.slice (some ⟨gj, oj, none⟩) N cj] 24 (0, 0)) :: R)))
      case atStart => exact ⟨0, 0, none, 0, rfl, rfl, Lib.hid rfl, Nat.le_refl _, K2⟩
      case round =>
        clear K2
        obtain ⟨j, m2, A2, c2, hg, rfl, hm2, hmb, K⟩ := hrel
        have hjn : j ≤ N := by omega
        replace hg := Lib.hid hg
        have b0 : wr.cell? ⟨bj, 0, none⟩ = some (.slice (some ⟨gj, oj, none⟩) N cj) := K.out.at5.cellOf 0 rfl
        rcases Nat.lt_or_ge j N with hlt | hlt
        · have hj0 : (0 : Int) ≤ (j : Int) := by omega
          have hj1 : (j : Int) < (N : Int) := by omega
          have hwj : IntKind.i64.wrap ((j : Int) + 1) = ((j + 1 : Nat) : Int) := by rw [IntWalk.i64_in _ (by omega)]; omega
          obtain ⟨z, hz⟩ : ∃ z, zs[j]? = some z := ⟨_, List.getElem?_eq_getElem (by have := hN.out; omega)⟩
          have hzN := hok.out.node z (List.mem_of_getElem? hz)
          have htc := tcount_par hzN
          have hpz := hzN.par
          have hz4 := hzN.few
          have hst := Lib.hid (hGS.out j z hz)
          have hjr := hj.out _ K.out.tail.tail.tail.tail.tail.tail
          have hins := fun w' (h : Hs w0 w' R) => (hj.out w' h).2 z (List.mem_of_getElem? hz)
          have hcc := hjr.cells hz
          obtain ⟨tp, htp⟩ : ∃ t, tcount z = t := ⟨_, rfl⟩
          rw [htp] at htc
          have hzp : z.par = (tp : Int) := htc.symm
          obtain ⟨sa, sc, hsl⟩ : ∃ A c, z.sl = .slice A z.2.length c := (hins _ K.out.tail.tail.tail.tail.tail.tail).form
          obtain ⟨I, hI⟩ : ∃ I, z.2.length = I := ⟨_, rfl⟩
          rw [hI] at hsl hz4
          rw [hsl] at hins hcc
          rw [hzp] at hcc hpz
          have hsc := (hins _ K.out.tail.tail.tail.tail.tail.tail).caps.2
          obtain ⟨kd, hkd⟩ : ∃ x, z.kind = x := ⟨_, rfl⟩
          obtain ⟨eo, heo⟩ : ∃ x, z.1.2.2.2.1.1 = x := ⟨_, rfl⟩
          obtain ⟨en, hen⟩ : ∃ x, z.1.2.2.2.1.2.1 = x := ⟨_, rfl⟩
          obtain ⟨ea, hea⟩ : ∃ x, z.1.2.2.2.1.2.2.1 = x := ⟨_, rfl⟩
          obtain ⟨el, hel⟩ : ∃ x, z.1.2.2.2.1.2.2.2.1 = x := ⟨_, rfl⟩
          obtain ⟨ec, hec⟩ : ∃ x, z.1.2.2.2.1.2.2.2.2 = x := ⟨_, rfl⟩
          obtain ⟨ag, hag⟩ : ∃ x, z.1.2.2.2.2.1 = x := ⟨_, rfl⟩
          obtain ⟨wk, hwk⟩ : ∃ x, z.1.2.2.2.2.2.1 = x := ⟨_, rfl⟩
          obtain ⟨ws, hws⟩ : ∃ x, z.1.2.2.2.2.2.2.1 = x := ⟨_, rfl⟩
          obtain ⟨wl, hwl⟩ : ∃ x, z.1.2.2.2.2.2.2.2 = x := ⟨_, rfl⟩
          rw [hkd, heo, hen, hea, hel, hec, hag, hwk, hws, hwl] at hcc
          obtain ⟨c0, c1, cc2, c3, c4, c5, c6, c7, c8, c9⟩ := hcc
          clear hkd heo hen hea hel hec hag hwk hws hwl htc hjr hsl
          replace hins := Lib.hid hins
          replace hz := Lib.hid hz
          replace hI := Lib.hid hI
          replace hzN := Lib.hid hzN
          replace htp := Lib.hid htp
          replace hzp := Lib.hid hzp
          go_upto_region 15 with (fail)
          have K2 := Lib.hid (K.out.alloc (.cells #[.int .i64 kd, .slice sa I sc, .int .i64 tp, .int .i64 eo, .int .i64 en, .slice ea el ec, .int .i64 ag, .int .i64 wk, .int .i64 ws, .int .i64 wl] 54))
          clear c0 c1 cc2 c3 c4 c5 c6 c7 c8 c9 b0 K
          generalize World.alloc wr _ = w3 at K2 ⊢
          generalize wr.heap.size = bn at K2 ⊢
          obtain ⟨LI, hLI⟩ : ∃ LI, z.2.zipIdx = LI := ⟨_, rfl⟩
          obtain ⟨G3, hG3⟩ : ∃ G3, chn3 zs T j z = G3 := ⟨_, rfl⟩
          obtain ⟨X, hX⟩ : ∃ X, (L.take j).flatMap G = X := ⟨_, rfl⟩
          rw [hX] at hm2 K2 hst
          rw [hLI, hG3] at hst
          clear hX
          have hLIn : Hid (LI.length = I) := by show _ = _; rw [← hLI, List.length_zipIdx, hI.out]
          replace hLI := Lib.hid hLI
          replace hG3 := Lib.hid hG3
          have K3 : Hid (Hs w0 w3 (Blk bp (.cells #[.slice A m c, .slice A2 m2 c2] 30 (0, 0)) :: Ls EChn 40 (.slice A2 m2 c2) (X ++ (LI.take 0).flatMap G3) :: Blk bn (.cells #[.int .i64 kd, .slice sa I sc, .int .i64 tp, .int .i64 eo, .int .i64 en, .slice ea el ec, .int .i64 ag, .int .i64 wk, .int .i64 ws, .int .i64 wl] 54 (0, 0)) :: Ls ETask 42 (.slice A m c) T :: Ls (Enc.num .i64) 3 (.slice (some ⟨gf, 0, none⟩) N N) fl :: Blk br (.cells #[.slice none 0 0, .slice none 0 0] 30 (0, 0)) :: Blk bj (.cells #[.slice (some ⟨gj, oj, none⟩) N cj] 24 (0, 0)) :: R)) := by
            show Hs _ _ _
            rw [List.take_zero, List.flatMap_nil, List.append_nil]
            exact K2.out.at2.at2
          clear K2
          go_wp2_with fail
          go_loopg [9] I (fun g iv wr => ∃ (i m2 : Nat) (A2 : Option Addr) (c2 : Nat), g + i = I ∧ iv = .int .i64 i ∧ Hid ((X ++ (LI.take i).flatMap G3).length = m2) ∧ m2 ≤ 64 * j + 16 * i ∧ Hid (Hs w0 wr (Blk bp (.cells #[.slice A m c, .slice A2 m2 c2] 30 (0, 0)) :: Ls EChn 40 (.slice A2 m2 c2) (X ++ (LI.take i).flatMap G3) :: Blk bn (.cells #[.int .i64 kd, .slice sa I sc, .int .i64 tp, .int .i64 eo, .int .i64 en, .slice ea el ec, .int .i64 ag, .int .i64 wk, .int .i64 ws, .int .i64 wl] 54 (0, 0)) :: Ls ETask 42 (.slice A m c) T :: Ls (Enc.num .i64) 3 (.slice (some ⟨gf, 0, none⟩) N N) fl :: Blk br (.cells #[.slice none 0 0, .slice none 0 0] 30 (0, 0)) :: Blk bj (.cells #[.slice (some ⟨gj, oj, none⟩) N cj] 24 (0, 0)) :: R)))
          case atStart => exact ⟨0, m2, A2, c2, rfl, rfl, by show _ = _; rw [List.take_zero, List.flatMap_nil, List.append_nil]; exact hm2.out, by omega, K3⟩
          case round =>
            clear K3 hm2 hmb
            obtain ⟨i, m2, A2, c2, hgi, rfl, hm2, hmb, K⟩ := hrel
            have hin : i ≤ I := by omega
            replace hgi := Lib.hid hgi
            have n1 : wr.cell? ⟨bn, 1, none⟩ = some (.slice sa I sc) := K.out.at2.cellOf 1 rfl
            rcases Nat.lt_or_ge i I with hli | hli
            · have hi0 : (0 : Int) ≤ (i : Int) := by omega
              have hi1 : (i : Int) < (I : Int) := by omega
              have hwi : IntKind.i64.wrap ((i : Int) + 1) = ((i + 1 : Nat) : Int) := by rw [IntWalk.i64_in _ (by omega)]; omega
              have hir := hins.out _ K.out.tail.tail.tail.tail.tail.tail.tail
              obtain ⟨gi, oi, rfl⟩ := hir.some_ (by have := hI.out; omega)
              obtain ⟨v, hv⟩ : ∃ r, z.2[i]? = some r := ⟨_, List.getElem?_eq_getElem (by have := hI.out; omega)⟩
              obtain ⟨kk, y, rfl, hy⟩ := node_at (hzN.out.ins v (List.mem_of_getElem? hv))
              have hkN : kk < N := by have := (List.getElem?_eq_some_iff.1 hy).1; have := hN.out; omega
              have s0 : wr.cell? ⟨gi, oi + i, none⟩ = some (.int .i64 kk) := by have := hir.cell hv 0 rfl; simpa [Enc.num] using this
              have hkk0 : (0 : Int) ≤ (kk : Int) := by omega
              have hkk1 : (kk : Int) < (N : Int) := by omega
              have hyN := hok.out.node y (List.mem_of_getElem? hy)
              have hpy := hyN.par
              have htc := tcount_par hyN
              have hst3 : Hid (X ++ (LI.take (i + 1)).flatMap G3 = (X ++ (LI.take i).flatMap G3) ++ G3 ((kk : Int), i)) := by
                show _ = _
                rw [fm_step G3 LI i _ (by rw [← hLI.out]; exact zipIdx_get z.2 i _ hv), List.append_assoc]
              have href := chn3_ref hok.out (a := i) hz.out hy
              rw [hT.out, hG3.out, hzp.out, htp.out] at href
              rw [href] at hst3
              obtain ⟨py, hpye⟩ : ∃ t, tcount y = t := ⟨_, rfl⟩
              rw [hpye] at htc hst3
              have hyp : y.par = (py : Int) := htc.symm
              rw [hyp] at hst3 hpy
              have hcc := fun w' (h : Hs w0 w' R) => (hj.out w' h).cells hy
              rw [hyp] at hcc
              have hF1 : Hid (∀ w' R', Hs w0 w' (Ls (Enc.num .i64) 3 (.slice (some ⟨gf, 0, none⟩) N N) fl :: R') → w'.cell? ⟨gf, kk, none⟩ = some (.int .i64 (fst0 zs kk))) := fun w' R' h => by have := h.ls_rd.cell (hff.out kk hkN) 0 rfl; simpa [Enc.num] using this
              have hF2 : Hid (∀ w' R', Hs w0 w' (Ls (Enc.num .i64) 3 (.slice (some ⟨gf, 0, none⟩) N N) fl :: R') → w'.cell? ⟨gf, j, none⟩ = some (.int .i64 (fst0 zs j))) := fun w' R' h => by have := h.ls_rd.cell (hff.out j (by omega)) 0 rfl; simpa [Enc.num] using this
              have hf1b := @fst0_le zs kk
              have hf2b := @fst0_le zs j
              obtain ⟨f1, hf1⟩ : ∃ x, fst0 zs kk = x := ⟨_, rfl⟩
              obtain ⟨f2, hf2⟩ : ∃ x, fst0 zs j = x := ⟨_, rfl⟩
              rw [hf1] at hF1 hst3 hf1b
              rw [hf2] at hF2 hst3 hf2b
              clear hf1 hf2 href htc
              obtain ⟨kd2, hkd⟩ : ∃ x, y.kind = x := ⟨_, rfl⟩
              obtain ⟨sa2, sn2, sc2, hsl⟩ : ∃ a n c, y.sl = .slice a n c := ⟨_, _, _, rfl⟩
              obtain ⟨eo2, heo⟩ : ∃ x, y.1.2.2.2.1.1 = x := ⟨_, rfl⟩
              obtain ⟨en2, hen⟩ : ∃ x, y.1.2.2.2.1.2.1 = x := ⟨_, rfl⟩
              obtain ⟨ea2, hea⟩ : ∃ x, y.1.2.2.2.1.2.2.1 = x := ⟨_, rfl⟩
              obtain ⟨el2, hel⟩ : ∃ x, y.1.2.2.2.1.2.2.2.1 = x := ⟨_, rfl⟩
              obtain ⟨ec2, hec⟩ : ∃ x, y.1.2.2.2.1.2.2.2.2 = x := ⟨_, rfl⟩
              obtain ⟨ag2, hag⟩ : ∃ x, y.1.2.2.2.2.1 = x := ⟨_, rfl⟩
              obtain ⟨wk2, hwk⟩ : ∃ x, y.1.2.2.2.2.2.1 = x := ⟨_, rfl⟩
              obtain ⟨ws2, hws⟩ : ∃ x, y.1.2.2.2.2.2.2.1 = x := ⟨_, rfl⟩
              obtain ⟨wl2, hwl⟩ : ∃ x, y.1.2.2.2.2.2.2.2 = x := ⟨_, rfl⟩
              rw [hkd, hsl, heo, hen, hea, hel, hec, hag, hwk, hws, hwl] at hcc
              clear hkd hsl heo hen hea hel hec hag hwk hws hwl s0 hir
              replace hcc := Lib.hid hcc
              have hsv : Hid (∀ w', Hs w0 w' R → w'.cell? ⟨gi, oi + i, none⟩ = some (.int .i64 kk)) := fun w' h => by have := (hins.out w' h).cell hv 0 rfl; simpa [Enc.num] using this
              replace hv := Lib.hid hv
              replace hyN := Lib.hid hyN
              replace hy := Lib.hid hy
              obtain ⟨Y, hY⟩ : ∃ Y, X ++ (LI.take i).flatMap G3 = Y := ⟨_, rfl⟩
              rw [hY] at hm2 K hst3
              clear hY
              have SS : Hid (∀ w', Hs w0 w' (Blk bp (.cells #[.slice A m c, .slice A2 m2 c2] 30 (0, 0)) :: Ls EChn 40 (.slice A2 m2 c2) (Y) :: Blk bn (.cells #[.int .i64 kd, .slice (some ⟨gi, oi, none⟩) I sc, .int .i64 tp, .int .i64 eo, .int .i64 en, .slice ea el ec, .int .i64 ag, .int .i64 wk, .int .i64 ws, .int .i64 wl] 54 (0, 0)) :: Ls ETask 42 (.slice A m c) T :: Ls (Enc.num .i64) 3 (.slice (some ⟨gf, 0, none⟩) N N) fl :: Blk br (.cells #[.slice none 0 0, .slice none 0 0] 30 (0, 0)) :: Blk bj (.cells #[.slice (some ⟨gj, oj, none⟩) N cj] 24 (0, 0)) :: R) → w'.cell? ⟨bj, 0, none⟩ = some (.slice (some ⟨gj, oj, none⟩) N cj) ∧ w'.cell? ⟨bn, 1, none⟩ = some (.slice (some ⟨gi, oi, none⟩) I sc) ∧ w'.cell? ⟨gi, oi + i, none⟩ = some (.int .i64 kk) ∧ w'.cell? ⟨gj, oj + kk * 10, none⟩ = some (.int .i64 kd2) ∧ w'.cell? ⟨gj, oj + kk * 10 + 1, none⟩ = some (.slice sa2 sn2 sc2) ∧ w'.cell? ⟨gj, oj + kk * 10 + 2, none⟩ = some (.int .i64 py) ∧ w'.cell? ⟨gj, oj + kk * 10 + 3, none⟩ = some (.int .i64 eo2) ∧ w'.cell? ⟨gj, oj + kk * 10 + 4, none⟩ = some (.int .i64 en2) ∧ w'.cell? ⟨gj, oj + kk * 10 + 5, none⟩ = some (.slice ea2 el2 ec2) ∧ w'.cell? ⟨gj, oj + kk * 10 + 6, none⟩ = some (.int .i64 ag2) ∧ w'.cell? ⟨gj, oj + kk * 10 + 7, none⟩ = some (.int .i64 wk2) ∧ w'.cell? ⟨gj, oj + kk * 10 + 8, none⟩ = some (.int .i64 ws2) ∧ w'.cell? ⟨gj, oj + kk * 10 + 9, none⟩ = some (.int .i64 wl2)) := fun w' h => ⟨h.at6.cellOf 0 rfl, h.at2.cellOf 1 rfl, hsv.out w' h.tail.tail.tail.tail.tail.tail.tail, hcc.out w' h.tail.tail.tail.tail.tail.tail.tail⟩
              go_upto_region 18 with (fail)
              clear n1
              have KQ := Lib.hid K.out
              clear K
              refine wp_region_left (S := fun w' : World => w'.cell? ⟨bj, 0, none⟩ = some (.slice (some ⟨gj, oj, none⟩) N cj) ∧ w'.cell? ⟨bn, 1, none⟩ = some (.slice (some ⟨gi, oi, none⟩) I sc) ∧ w'.cell? ⟨gi, oi + i, none⟩ = some (.int .i64 kk) ∧ w'.cell? ⟨gj, oj + kk * 10, none⟩ = some (.int .i64 kd2) ∧ w'.cell? ⟨gj, oj + kk * 10 + 1, none⟩ = some (.slice sa2 sn2 sc2) ∧ w'.cell? ⟨gj, oj + kk * 10 + 2, none⟩ = some (.int .i64 py) ∧ w'.cell? ⟨gj, oj + kk * 10 + 3, none⟩ = some (.int .i64 eo2) ∧ w'.cell? ⟨gj, oj + kk * 10 + 4, none⟩ = some (.int .i64 en2) ∧ w'.cell? ⟨gj, oj + kk * 10 + 5, none⟩ = some (.slice ea2 el2 ec2) ∧ w'.cell? ⟨gj, oj + kk * 10 + 6, none⟩ = some (.int .i64 ag2) ∧ w'.cell? ⟨gj, oj + kk * 10 + 7, none⟩ = some (.int .i64 wk2) ∧ w'.cell? ⟨gj, oj + kk * 10 + 8, none⟩ = some (.int .i64 ws2) ∧ w'.cell? ⟨gj, oj + kk * 10 + 9, none⟩ = some (.int .i64 wl2)) 10 mixed ?_
              have hS : (fun w' : World => w'.cell? ⟨bj, 0, none⟩ = some (.slice (some ⟨gj, oj, none⟩) N cj) ∧ w'.cell? ⟨bn, 1, none⟩ = some (.slice (some ⟨gi, oi, none⟩) I sc) ∧ w'.cell? ⟨gi, oi + i, none⟩ = some (.int .i64 kk) ∧ w'.cell? ⟨gj, oj + kk * 10, none⟩ = some (.int .i64 kd2) ∧ w'.cell? ⟨gj, oj + kk * 10 + 1, none⟩ = some (.slice sa2 sn2 sc2) ∧ w'.cell? ⟨gj, oj + kk * 10 + 2, none⟩ = some (.int .i64 py) ∧ w'.cell? ⟨gj, oj + kk * 10 + 3, none⟩ = some (.int .i64 eo2) ∧ w'.cell? ⟨gj, oj + kk * 10 + 4, none⟩ = some (.int .i64 en2) ∧ w'.cell? ⟨gj, oj + kk * 10 + 5, none⟩ = some (.slice ea2 el2 ec2) ∧ w'.cell? ⟨gj, oj + kk * 10 + 6, none⟩ = some (.int .i64 ag2) ∧ w'.cell? ⟨gj, oj + kk * 10 + 7, none⟩ = some (.int .i64 wk2) ∧ w'.cell? ⟨gj, oj + kk * 10 + 8, none⟩ = some (.int .i64 ws2) ∧ w'.cell? ⟨gj, oj + kk * 10 + 9, none⟩ = some (.int .i64 wl2)) wr.drew := by exact SS.out _ KQ.out.drew
              refine Left.pure (i := 0) (v := ?v18_0) rfl (by kernel_rfl) (fun _ _ _ h => h) (Or.inr hS) (Or.inl ⟨by kernel_rfl, fun w _ => ?hy18_0⟩) ?rest18_0
              case hy18_0 => (go_simp; try with_reducible rfl)
              try simp only [Act.put, List.setIfInBounds_toArray, List.set_cons_zero, List.set_cons_succ]
              refine Left.take (i := 1) (v := ?v18_1) rfl (by kernel_rfl) (fun _ _ _ h => h) hS (Or.inl ⟨by kernel_rfl, fun w hSw => ?hy18_1⟩) ?rest18_1
              case hy18_1 => ((try dsimp only at hSw); go_simp; try with_reducible rfl)
              try simp only [Act.put, List.setIfInBounds_toArray, List.set_cons_zero, List.set_cons_succ]
              refine Left.pure (i := 2) (v := ?v18_2) rfl (by kernel_rfl) (fun _ _ _ h => h) (Or.inr hS) (Or.inl ⟨by kernel_rfl, fun w _ => ?hy18_2⟩) ?rest18_2
              case hy18_2 => (go_simp; try with_reducible rfl)
              try simp only [Act.put, List.setIfInBounds_toArray, List.set_cons_zero, List.set_cons_succ]
              refine Left.take (i := 3) (v := ?v18_3) rfl (by kernel_rfl) (fun _ _ _ h => h) hS (Or.inl ⟨by kernel_rfl, fun w hSw => ?hy18_3⟩) ?rest18_3
              case hy18_3 => ((try dsimp only at hSw); go_simp; try with_reducible rfl)
              try simp only [Act.put, List.setIfInBounds_toArray, List.set_cons_zero, List.set_cons_succ]
              refine Left.pure (i := 4) (v := ?v18_4) rfl (by kernel_rfl) (fun _ _ _ h => h) (Or.inr hS) (Or.inl ⟨by kernel_rfl, fun w _ => ?hy18_4⟩) ?rest18_4
              case hy18_4 => (go_simp; try with_reducible rfl)
              try simp only [Act.put, List.setIfInBounds_toArray, List.set_cons_zero, List.set_cons_succ]
              refine Left.pure (i := 5) (v := ?v18_5) rfl (by kernel_rfl) (fun _ _ _ h => h) (Or.inr hS) (Or.inl ⟨by kernel_rfl, fun w _ => ?hy18_5⟩) ?rest18_5
              case hy18_5 => (go_simp; try with_reducible rfl)
              try simp only [Act.put, List.setIfInBounds_toArray, List.set_cons_zero, List.set_cons_succ]
              refine Left.take (i := 6) (v := ?v18_6) rfl (by kernel_rfl) (fun _ _ _ h => h) hS (Or.inl ⟨by kernel_rfl, fun w hSw => ?hy18_6⟩) ?rest18_6
              case hy18_6 => ((try dsimp only at hSw); go_simp; try with_reducible rfl)
              try simp only [Act.put, List.setIfInBounds_toArray, List.set_cons_zero, List.set_cons_succ]
              refine Left.pure (i := 7) (v := ?v18_7) rfl (by kernel_rfl) (fun _ _ _ h => h) (Or.inr hS) (Or.inl ⟨by kernel_rfl, fun w _ => ?hy18_7⟩) ?rest18_7
              case hy18_7 => (go_simp; try with_reducible rfl)
              try simp only [Act.put, List.setIfInBounds_toArray, List.set_cons_zero, List.set_cons_succ]
              refine Left.take (i := 8) (v := ?v18_8) rfl (by kernel_rfl) (fun _ _ _ h => h) hS (Or.inl ⟨by kernel_rfl, fun w hSw => ?hy18_8⟩) ?rest18_8
              case hy18_8 => ((try dsimp only at hSw); go_simp; try with_reducible rfl)
              try simp only [Act.put, List.setIfInBounds_toArray, List.set_cons_zero, List.set_cons_succ]
              refine Left.run (i := 9) rfl (by kernel_rfl) (fun K hK => ?_)
              have K2 := KQ.out.drew.alloc (.cells #[.int .i64 0, .slice none 0 0, .int .i64 0, .int .i64 0, .int .i64 0, .slice none 0 0, .int .i64 0, .int .i64 0, .int .i64 0, .int .i64 0] 54)
              go_simp
              replace hS : (fun w' : World => w'.cell? ⟨bj, 0, none⟩ = some (.slice (some ⟨gj, oj, none⟩) N cj) ∧ w'.cell? ⟨bn, 1, none⟩ = some (.slice (some ⟨gi, oi, none⟩) I sc) ∧ w'.cell? ⟨gi, oi + i, none⟩ = some (.int .i64 kk) ∧ w'.cell? ⟨gj, oj + kk * 10, none⟩ = some (.int .i64 kd2) ∧ w'.cell? ⟨gj, oj + kk * 10 + 1, none⟩ = some (.slice sa2 sn2 sc2) ∧ w'.cell? ⟨gj, oj + kk * 10 + 2, none⟩ = some (.int .i64 py) ∧ w'.cell? ⟨gj, oj + kk * 10 + 3, none⟩ = some (.int .i64 eo2) ∧ w'.cell? ⟨gj, oj + kk * 10 + 4, none⟩ = some (.int .i64 en2) ∧ w'.cell? ⟨gj, oj + kk * 10 + 5, none⟩ = some (.slice ea2 el2 ec2) ∧ w'.cell? ⟨gj, oj + kk * 10 + 6, none⟩ = some (.int .i64 ag2) ∧ w'.cell? ⟨gj, oj + kk * 10 + 7, none⟩ = some (.int .i64 wk2) ∧ w'.cell? ⟨gj, oj + kk * 10 + 8, none⟩ = some (.int .i64 ws2) ∧ w'.cell? ⟨gj, oj + kk * 10 + 9, none⟩ = some (.int .i64 wl2)) (wr.drew.alloc (.cells #[.int .i64 0, .slice none 0 0, .int .i64 0, .int .i64 0, .int .i64 0, .slice none 0 0, .int .i64 0, .int .i64 0, .int .i64 0, .int .i64 0] 54)) := by exact SS.out _ (KQ.out.drew.alloc_ _)
              refine hK.out _ _ (Or.inr hS) ?_
              clear hK K
              try simp only [Act.put, List.setIfInBounds_toArray, List.set_cons_zero, List.set_cons_succ]
              refine Left.run (i := 10) rfl (by kernel_rfl) (fun K hK => ?_)
              have f0 := K2.frozenOf 0
              have f1 := K2.frozenOf 1
              have f2 := K2.frozenOf 2
              have f3 := K2.frozenOf 3
              have f4 := K2.frozenOf 4
              have f5 := K2.frozenOf 5
              have f6 := K2.frozenOf 6
              have f7 := K2.frozenOf 7
              have f8 := K2.frozenOf 8
              have f9 := K2.frozenOf 9
              have d0 := K2.cellOf 0 rfl
              have d1 := K2.cellOf 1 rfl
              have d2 := K2.cellOf 2 rfl
              have d3 := K2.cellOf 3 rfl
              have d4 := K2.cellOf 4 rfl
              have d5 := K2.cellOf 5 rfl
              have d6 := K2.cellOf 6 rfl
              have d7 := K2.cellOf 7 rfl
              have d8 := K2.cellOf 8 rfl
              have d9 := K2.cellOf 9 rfl
              go_simp
              refine hK.out _ _ (Or.inl (by kernel_rfl)) ?_
              clear hK K
              try simp only [Act.put, List.setIfInBounds_toArray, List.set_cons_zero, List.set_cons_succ]
              refine Left.done (by kernel_rfl) ?_ _
              have K3 := Lib.hid ((KQ.out.alloc (.cells #[.int .i64 kd2, .slice sa2 sn2 sc2, .int .i64 py, .int .i64 eo2, .int .i64 en2, .slice ea2 el2 ec2, .int .i64 ag2, .int .i64 wk2, .int .i64 ws2, .int .i64 wl2] 54)).drew)
              clear f0 d0 f1 d1 f2 d2 f3 d3 f4 d4 f5 d5 f6 d6 f7 d7 f8 d8 f9 d9 K2 SS KQ
              go_upto_region 19 with (fail)
              generalize World.drew _ = w5 at K3 ⊢
              generalize wr.heap.size = bk at K3 ⊢
              have b0 : w5.cell? ⟨bj, 0, none⟩ = some (.slice (some ⟨gj, oj, none⟩) N cj) := K3.out.at7.cellOf 0 rfl
              obtain ⟨al, hal⟩ : ∃ b, (keyed zs (j : Int) || (py : Int) != (tp : Int)) = b := ⟨_, rfl⟩
              rw [hal] at hst3
              replace hal := Lib.hid hal
              go_cut [11] (fun bv wx => bv = .bool al ∧ Hid (Hs w0 wx (Blk bp (.cells #[.slice A m c, .slice A2 m2 c2] 30 (0, 0)) :: Ls EChn 40 (.slice A2 m2 c2) (Y) :: Blk bn (.cells #[.int .i64 kd, .slice (some ⟨gi, oi, none⟩) I sc, .int .i64 tp, .int .i64 eo, .int .i64 en, .slice ea el ec, .int .i64 ag, .int .i64 wk, .int .i64 ws, .int .i64 wl] 54 (0, 0)) :: Blk bk (.cells #[.int .i64 kd2, .slice sa2 sn2 sc2, .int .i64 py, .int .i64 eo2, .int .i64 en2, .slice ea2 el2 ec2, .int .i64 ag2, .int .i64 wk2, .int .i64 ws2, .int .i64 wl2] 54 (0, 0)) :: Ls ETask 42 (.slice A m c) T :: Ls (Enc.num .i64) 3 (.slice (some ⟨gf, 0, none⟩) N N) fl :: Blk br (.cells #[.slice none 0 0, .slice none 0 0] 30 (0, 0)) :: Blk bj (.cells #[.slice (some ⟨gj, oj, none⟩) N cj] 24 (0, 0)) :: R)))
              case first =>
                go_wp2_with fail
                refine (keyed19 _ zs w5 w0 _ K3.out.at3.at3.at3 (hj.out _ K3.out.tail.tail.tail.tail.tail.tail.tail.tail) (j : Int)).mono ?_
                rintro e w6 ⟨rfl, K5⟩
                have k2 : w6.cell? ⟨bk, 2, none⟩ = some (.int .i64 py) := K5.at3.cellOf 2 rfl
                have n2 : w6.cell? ⟨bn, 2, none⟩ = some (.int .i64 tp) := K5.at2.cellOf 2 rfl
                replace K5 := Lib.hid K5
                clear b0
                have hal2 := Lib.hid hal.out
                obtain ⟨ky, hky⟩ : ∃ b, keyed zs (j : Int) = b := ⟨_, rfl⟩
                rw [hky] at hal2 ⊢
                clear hky
                cases ky with
                | true =>
                  have hal3 : Hid (al = true) := by show _ = _; rw [← hal2.out]; rfl
                  go_wp2_with fail
                  go_meet
                  case rel => exact ⟨by rw [hal3.out], K5⟩
                | false =>
                  have hal3 : Hid (al = ((py : Int) != (tp : Int))) := by show _ = _; rw [← hal2.out]; rfl
                  go_wp2_with fail
                  go_meet
                  case rel => exact ⟨by rw [hal3.out], K5⟩
              case rest =>
                obtain ⟨hu1, K⟩ := hcut
                subst hu1
                clear b0 K3
                obtain ⟨G2, hG2⟩ : ∃ G2, rch2 al f1 f2 i tp = G2 := ⟨_, rfl⟩
                rw [hG2] at hst3
                replace hG2 := Lib.hid hG2
                have K6 : Hid (Hs w0 wc (Blk bp (.cells #[.slice A m c, .slice A2 m2 c2] 30 (0, 0)) :: Ls EChn 40 (.slice A2 m2 c2) (Y ++ ((List.range py).take 0).flatMap G2) :: Blk bn (.cells #[.int .i64 kd, .slice (some ⟨gi, oi, none⟩) I sc, .int .i64 tp, .int .i64 eo, .int .i64 en, .slice ea el ec, .int .i64 ag, .int .i64 wk, .int .i64 ws, .int .i64 wl] 54 (0, 0)) :: Blk bk (.cells #[.int .i64 kd2, .slice sa2 sn2 sc2, .int .i64 py, .int .i64 eo2, .int .i64 en2, .slice ea2 el2 ec2, .int .i64 ag2, .int .i64 wk2, .int .i64 ws2, .int .i64 wl2] 54 (0, 0)) :: Ls ETask 42 (.slice A m c) T :: Ls (Enc.num .i64) 3 (.slice (some ⟨gf, 0, none⟩) N N) fl :: Blk br (.cells #[.slice none 0 0, .slice none 0 0] 30 (0, 0)) :: Blk bj (.cells #[.slice (some ⟨gj, oj, none⟩) N cj] 24 (0, 0)) :: R)) := by
                  show Hs _ _ _
                  rw [List.take_zero, List.flatMap_nil, List.append_nil]
                  exact K.out
                clear K
                go_wp2_with fail
                go_loopg [12] py (fun g iv wr => ∃ (f m2 : Nat) (A2 : Option Addr) (c2 : Nat), g + f = py ∧ iv = .int .i64 f ∧ Hid ((Y ++ ((List.range py).take f).flatMap G2).length = m2) ∧ m2 ≤ 64 * j + 16 * i + 4 * f ∧ Hid (Hs w0 wr (Blk bp (.cells #[.slice A m c, .slice A2 m2 c2] 30 (0, 0)) :: Ls EChn 40 (.slice A2 m2 c2) (Y ++ ((List.range py).take f).flatMap G2) :: Blk bn (.cells #[.int .i64 kd, .slice (some ⟨gi, oi, none⟩) I sc, .int .i64 tp, .int .i64 eo, .int .i64 en, .slice ea el ec, .int .i64 ag, .int .i64 wk, .int .i64 ws, .int .i64 wl] 54 (0, 0)) :: Blk bk (.cells #[.int .i64 kd2, .slice sa2 sn2 sc2, .int .i64 py, .int .i64 eo2, .int .i64 en2, .slice ea2 el2 ec2, .int .i64 ag2, .int .i64 wk2, .int .i64 ws2, .int .i64 wl2] 54 (0, 0)) :: Ls ETask 42 (.slice A m c) T :: Ls (Enc.num .i64) 3 (.slice (some ⟨gf, 0, none⟩) N N) fl :: Blk br (.cells #[.slice none 0 0, .slice none 0 0] 30 (0, 0)) :: Blk bj (.cells #[.slice (some ⟨gj, oj, none⟩) N cj] 24 (0, 0)) :: R)))
                case atStart => exact ⟨0, m2, A2, c2, by omega, rfl, by show _ = _; rw [List.take_zero, List.flatMap_nil, List.append_nil]; exact hm2.out, by omega, K6⟩
                case round =>
                  clear K6 hmb hm2
                  obtain ⟨f, m2, A2, c2, hgf, rfl, hm2, hmb, K⟩ := hrel
                  have hfn : f ≤ py := by omega
                  replace hgf := Lib.hid hgf
                  have k2 : wr.cell? ⟨bk, 2, none⟩ = some (.int .i64 py) := K.out.at3.cellOf 2 rfl
                  rcases Nat.lt_or_ge f py with hlf | hlf
                  · have hf0 : (0 : Int) ≤ (f : Int) := by omega
                    have hf1 : (f : Int) < (py : Int) := by omega
                    have hwf : IntKind.i64.wrap ((f : Int) + 1) = ((f + 1 : Nat) : Int) := by rw [IntWalk.i64_in _ (by omega)]; omega
                    have hst4 : Hid (Y ++ ((List.range py).take (f + 1)).flatMap G2 = (Y ++ ((List.range py).take f).flatMap G2) ++ (List.range tp).flatMap (rch1 al f1 f2 i f)) := by
                      show _ = _
                      rw [fm_step G2 (List.range py) f f (by rw [List.getElem?_range hlf]), ← hG2.out, List.append_assoc]
                      rfl
                    obtain ⟨G1, hG1⟩ : ∃ G1, rch1 al f1 f2 i f = G1 := ⟨_, rfl⟩
                    rw [hG1] at hst4
                    replace hG1 := Lib.hid hG1
                    obtain ⟨Z, hZ⟩ : ∃ Z, Y ++ ((List.range py).take f).flatMap G2 = Z := ⟨_, rfl⟩
                    rw [hZ] at hm2 K hst4
                    clear hZ
                    have K6 : Hid (Hs w0 wr (Blk bp (.cells #[.slice A m c, .slice A2 m2 c2] 30 (0, 0)) :: Ls EChn 40 (.slice A2 m2 c2) (Z ++ ((List.range tp).take 0).flatMap G1) :: Blk bn (.cells #[.int .i64 kd, .slice (some ⟨gi, oi, none⟩) I sc, .int .i64 tp, .int .i64 eo, .int .i64 en, .slice ea el ec, .int .i64 ag, .int .i64 wk, .int .i64 ws, .int .i64 wl] 54 (0, 0)) :: Blk bk (.cells #[.int .i64 kd2, .slice sa2 sn2 sc2, .int .i64 py, .int .i64 eo2, .int .i64 en2, .slice ea2 el2 ec2, .int .i64 ag2, .int .i64 wk2, .int .i64 ws2, .int .i64 wl2] 54 (0, 0)) :: Ls ETask 42 (.slice A m c) T :: Ls (Enc.num .i64) 3 (.slice (some ⟨gf, 0, none⟩) N N) fl :: Blk br (.cells #[.slice none 0 0, .slice none 0 0] 30 (0, 0)) :: Blk bj (.cells #[.slice (some ⟨gj, oj, none⟩) N cj] 24 (0, 0)) :: R)) := by
                      show Hs _ _ _
                      rw [List.take_zero, List.flatMap_nil, List.append_nil]
                      exact K.out
                    clear K
                    go_wp2_with fail
                    clear k2
                    go_loopg [13] tp (fun g iv wr => ∃ (t m2 : Nat) (A2 : Option Addr) (c2 : Nat), g + t = tp ∧ iv = .int .i64 t ∧ Hid ((Z ++ ((List.range tp).take t).flatMap G1).length = m2) ∧ m2 ≤ 64 * j + 16 * i + 4 * f + t ∧ Hid (Hs w0 wr (Blk bp (.cells #[.slice A m c, .slice A2 m2 c2] 30 (0, 0)) :: Ls EChn 40 (.slice A2 m2 c2) (Z ++ ((List.range tp).take t).flatMap G1) :: Blk bn (.cells #[.int .i64 kd, .slice (some ⟨gi, oi, none⟩) I sc, .int .i64 tp, .int .i64 eo, .int .i64 en, .slice ea el ec, .int .i64 ag, .int .i64 wk, .int .i64 ws, .int .i64 wl] 54 (0, 0)) :: Blk bk (.cells #[.int .i64 kd2, .slice sa2 sn2 sc2, .int .i64 py, .int .i64 eo2, .int .i64 en2, .slice ea2 el2 ec2, .int .i64 ag2, .int .i64 wk2, .int .i64 ws2, .int .i64 wl2] 54 (0, 0)) :: Ls ETask 42 (.slice A m c) T :: Ls (Enc.num .i64) 3 (.slice (some ⟨gf, 0, none⟩) N N) fl :: Blk br (.cells #[.slice none 0 0, .slice none 0 0] 30 (0, 0)) :: Blk bj (.cells #[.slice (some ⟨gj, oj, none⟩) N cj] 24 (0, 0)) :: R)))
                    case atStart => exact ⟨0, m2, A2, c2, by omega, rfl, by show _ = _; rw [List.take_zero, List.flatMap_nil, List.append_nil]; exact hm2.out, by omega, K6⟩
                    case round =>
                      clear K6 hmb hm2
                      obtain ⟨t, m2, A2, c2, hgt, rfl, hm2, hmb, K⟩ := hrel
                      have htn : t ≤ tp := by omega
                      replace hgt := Lib.hid hgt
                      have n2 : wr.cell? ⟨bn, 2, none⟩ = some (.int .i64 tp) := K.out.at2.cellOf 2 rfl
                      rcases Nat.lt_or_ge t tp with hlt2 | hlt2
                      · have ht0 : (0 : Int) ≤ (t : Int) := by omega
                        have ht1 : (t : Int) < (tp : Int) := by omega
                        have hwt : IntKind.i64.wrap ((t : Int) + 1) = ((t + 1 : Nat) : Int) := by rw [IntWalk.i64_in _ (by omega)]; omega
                        have hw1 : IntKind.i64.wrap ((f1 : Int) + (f : Int)) = ((f1 + f : Nat) : Int) := by rw [IntWalk.i64_in _ (by omega)]; omega
                        have hw2 : IntKind.i64.wrap ((f2 : Int) + (t : Int)) = ((f2 + t : Nat) : Int) := by rw [IntWalk.i64_in _ (by omega)]; omega
                        have hst5 : Hid (Z ++ ((List.range tp).take (t + 1)).flatMap G1 = (Z ++ ((List.range tp).take t).flatMap G1) ++ (if (al || (f : Int) == (t : Int)) = true then [(((f1 + f : Nat) : Int), ((f2 + t : Nat) : Int), (i : Int))] else [])) := by
                          show _ = _
                          rw [fm_step G1 (List.range tp) t t (by rw [List.getElem?_range hlt2]), ← hG1.out, List.append_assoc]
                          rfl
                        obtain ⟨V, hV⟩ : ∃ V, Z ++ ((List.range tp).take t).flatMap G1 = V := ⟨_, rfl⟩
                        rw [hV] at hm2 K hst5
                        clear hV
                        obtain ⟨yes, hyes⟩ : ∃ b, (al || (f : Int) == (t : Int)) = b := ⟨_, rfl⟩
                        rw [hyes] at hst5
                        replace hyes := Lib.hid hyes
                        have SS : Hid (∀ w', Hs w0 w' (Blk bp (.cells #[.slice A m c, .slice A2 m2 c2] 30 (0, 0)) :: Ls EChn 40 (.slice A2 m2 c2) (V) :: Blk bn (.cells #[.int .i64 kd, .slice (some ⟨gi, oi, none⟩) I sc, .int .i64 tp, .int .i64 eo, .int .i64 en, .slice ea el ec, .int .i64 ag, .int .i64 wk, .int .i64 ws, .int .i64 wl] 54 (0, 0)) :: Blk bk (.cells #[.int .i64 kd2, .slice sa2 sn2 sc2, .int .i64 py, .int .i64 eo2, .int .i64 en2, .slice ea2 el2 ec2, .int .i64 ag2, .int .i64 wk2, .int .i64 ws2, .int .i64 wl2] 54 (0, 0)) :: Ls ETask 42 (.slice A m c) T :: Ls (Enc.num .i64) 3 (.slice (some ⟨gf, 0, none⟩) N N) fl :: Blk br (.cells #[.slice none 0 0, .slice none 0 0] 30 (0, 0)) :: Blk bj (.cells #[.slice (some ⟨gj, oj, none⟩) N cj] 24 (0, 0)) :: R) → w'.cell? ⟨bp, 1, none⟩ = some (.slice A2 m2 c2) ∧ w'.cell? ⟨bn, 1, none⟩ = some (.slice (some ⟨gi, oi, none⟩) I sc) ∧ w'.cell? ⟨gi, oi + i, none⟩ = some (.int .i64 kk) ∧ w'.cell? ⟨gf, kk, none⟩ = some (.int .i64 f1) ∧ w'.cell? ⟨gf, j, none⟩ = some (.int .i64 f2)) := fun w' h => ⟨h.cellOf 1 rfl, h.at2.cellOf 1 rfl, hsv.out w' h.tail.tail.tail.tail.tail.tail.tail.tail, hF1.out _ _ h.at5, hF2.out _ _ h.at5⟩
                        go_upto_region 26 with (fail)
                        clear n2
                        go_cut [104] (fun bv wx => bv = .bool yes ∧ wx = wr)
                        case first =>
                          clear K
                          cases al with
                          | true =>
                            have hy2 : Hid (yes = true) := by show _ = _; rw [← hyes.out]; rfl
                            go_wp2_with fail
                            go_meet
                            case rel => exact ⟨by rw [hy2.out], rfl⟩
                          | false =>
                            have hy2 : Hid (yes = ((f : Int) == (t : Int))) := by show _ = _; rw [← hyes.out]; rfl
                            go_wp2_with fail
                            go_meet
                            case rel => exact ⟨by rw [hy2.out], rfl⟩
                        case rest =>
                          obtain ⟨hu1, hu2⟩ := hcut
                          subst hu1 hu2
                          cases yes with
                          | true =>
                            rw [if_pos rfl] at hst5
                            have KQ := Lib.hid K.out
                            clear K
                            go_upto_region 27 with (fail)
                            refine wp_region_left (S := fun w' : World => w'.cell? ⟨bp, 1, none⟩ = some (.slice A2 m2 c2) ∧ w'.cell? ⟨bn, 1, none⟩ = some (.slice (some ⟨gi, oi, none⟩) I sc) ∧ w'.cell? ⟨gi, oi + i, none⟩ = some (.int .i64 kk) ∧ w'.cell? ⟨gf, kk, none⟩ = some (.int .i64 f1) ∧ w'.cell? ⟨gf, j, none⟩ = some (.int .i64 f2)) 23 mixed ?_
                            have hS : (fun w' : World => w'.cell? ⟨bp, 1, none⟩ = some (.slice A2 m2 c2) ∧ w'.cell? ⟨bn, 1, none⟩ = some (.slice (some ⟨gi, oi, none⟩) I sc) ∧ w'.cell? ⟨gi, oi + i, none⟩ = some (.int .i64 kk) ∧ w'.cell? ⟨gf, kk, none⟩ = some (.int .i64 f1) ∧ w'.cell? ⟨gf, j, none⟩ = some (.int .i64 f2)) wc.drew := by exact SS.out _ KQ.out.drew
                            refine Left.pure (i := 0) (v := ?v27_0) rfl (by kernel_rfl) (fun _ _ _ h => h) (Or.inr hS) (Or.inl ⟨by kernel_rfl, fun w _ => ?hy27_0⟩) ?rest27_0
                            case hy27_0 => (go_simp; try with_reducible rfl)
                            try simp only [Act.put, List.setIfInBounds_toArray, List.set_cons_zero, List.set_cons_succ]
                            refine Left.take (i := 1) (v := ?v27_1) rfl (by kernel_rfl) (fun _ _ _ h => h) hS (Or.inl ⟨by kernel_rfl, fun w hSw => ?hy27_1⟩) ?rest27_1
                            case hy27_1 => ((try dsimp only at hSw); go_simp; try with_reducible rfl)
                            try simp only [Act.put, List.setIfInBounds_toArray, List.set_cons_zero, List.set_cons_succ]
                            refine Left.pure (i := 2) (v := ?v27_2) rfl (by kernel_rfl) (fun _ _ _ h => h) (Or.inr hS) (Or.inl ⟨by kernel_rfl, fun w _ => ?hy27_2⟩) ?rest27_2
                            case hy27_2 => (go_simp; try with_reducible rfl)
                            try simp only [Act.put, List.setIfInBounds_toArray, List.set_cons_zero, List.set_cons_succ]
                            refine Left.pure (i := 3) (v := ?v27_3) rfl (by kernel_rfl) (fun _ _ _ h => h) (Or.inr hS) (Or.inl ⟨by kernel_rfl, fun w _ => ?hy27_3⟩) ?rest27_3
                            case hy27_3 => (go_simp; try with_reducible rfl)
                            try simp only [Act.put, List.setIfInBounds_toArray, List.set_cons_zero, List.set_cons_succ]
                            refine Left.take (i := 4) (v := ?v27_4) rfl (by kernel_rfl) (fun _ _ _ h => h) hS (Or.inl ⟨by kernel_rfl, fun w hSw => ?hy27_4⟩) ?rest27_4
                            case hy27_4 => ((try dsimp only at hSw); go_simp; try with_reducible rfl)
                            try simp only [Act.put, List.setIfInBounds_toArray, List.set_cons_zero, List.set_cons_succ]
                            refine Left.pure (i := 5) (v := ?v27_5) rfl (by kernel_rfl) (fun _ _ _ h => h) (Or.inr hS) (Or.inl ⟨by kernel_rfl, fun w _ => ?hy27_5⟩) ?rest27_5
                            case hy27_5 => (go_simp; try with_reducible rfl)
                            try simp only [Act.put, List.setIfInBounds_toArray, List.set_cons_zero, List.set_cons_succ]
                            refine Left.pure (i := 6) (v := ?v27_6) rfl (by kernel_rfl) (fun _ _ _ h => h) (Or.inr hS) (Or.inl ⟨by kernel_rfl, fun w _ => ?hy27_6⟩) ?rest27_6
                            case hy27_6 => (go_simp; try with_reducible rfl)
                            try simp only [Act.put, List.setIfInBounds_toArray, List.set_cons_zero, List.set_cons_succ]
                            refine Left.take (i := 7) (v := ?v27_7) rfl (by kernel_rfl) (fun _ _ _ h => h) hS (Or.inl ⟨by kernel_rfl, fun w hSw => ?hy27_7⟩) ?rest27_7
                            case hy27_7 => ((try dsimp only at hSw); go_simp; try with_reducible rfl)
                            try simp only [Act.put, List.setIfInBounds_toArray, List.set_cons_zero, List.set_cons_succ]
                            refine Left.pure (i := 8) (v := ?v27_8) rfl (by kernel_rfl) (fun _ _ _ h => h) (Or.inr hS) (Or.inl ⟨by kernel_rfl, fun w _ => ?hy27_8⟩) ?rest27_8
                            case hy27_8 => (go_simp; try with_reducible rfl)
                            try simp only [Act.put, List.setIfInBounds_toArray, List.set_cons_zero, List.set_cons_succ]
                            refine Left.take (i := 9) (v := ?v27_9) rfl (by kernel_rfl) (fun _ _ _ h => h) hS (Or.inl ⟨by kernel_rfl, fun w hSw => ?hy27_9⟩) ?rest27_9
                            case hy27_9 => ((try dsimp only at hSw); go_simp; try with_reducible rfl)
                            try simp only [Act.put, List.setIfInBounds_toArray, List.set_cons_zero, List.set_cons_succ]
                            refine Left.pure (i := 10) (v := ?v27_10) rfl (by kernel_rfl) (fun _ _ _ h => h) (Or.inr hS) (Or.inl ⟨by kernel_rfl, fun w _ => ?hy27_10⟩) ?rest27_10
                            case hy27_10 => (go_simp; try with_reducible rfl)
                            try simp only [Act.put, List.setIfInBounds_toArray, List.set_cons_zero, List.set_cons_succ]
                            refine Left.pure (i := 11) (v := ?v27_11) rfl (by kernel_rfl) (fun _ _ _ h => h) (Or.inr hS) (Or.inl ⟨by kernel_rfl, fun w _ => ?hy27_11⟩) ?rest27_11
                            case hy27_11 => (go_simp; try with_reducible rfl)
                            try simp only [Act.put, List.setIfInBounds_toArray, List.set_cons_zero, List.set_cons_succ]
                            refine Left.pure (i := 12) (v := ?v27_12) rfl (by kernel_rfl) (fun _ _ _ h => h) (Or.inr hS) (Or.inl ⟨by kernel_rfl, fun w _ => ?hy27_12⟩) ?rest27_12
                            case hy27_12 => (go_simp; try with_reducible rfl)
                            try simp only [Act.put, List.setIfInBounds_toArray, List.set_cons_zero, List.set_cons_succ]
                            refine Left.pure (i := 13) (v := ?v27_13) rfl (by kernel_rfl) (fun _ _ _ h => h) (Or.inr hS) (Or.inl ⟨by kernel_rfl, fun w _ => ?hy27_13⟩) ?rest27_13
                            case hy27_13 => (go_simp; try with_reducible rfl)
                            try simp only [Act.put, List.setIfInBounds_toArray, List.set_cons_zero, List.set_cons_succ]
                            refine Left.pure (i := 14) (v := ?v27_14) rfl (by kernel_rfl) (fun _ _ _ h => h) (Or.inr hS) (Or.inl ⟨by kernel_rfl, fun w _ => ?hy27_14⟩) ?rest27_14
                            case hy27_14 => (go_simp; try with_reducible rfl)
                            try simp only [Act.put, List.setIfInBounds_toArray, List.set_cons_zero, List.set_cons_succ]
                            refine Left.take (i := 15) (v := ?v27_15) rfl (by kernel_rfl) (fun _ _ _ h => h) hS (Or.inl ⟨by kernel_rfl, fun w hSw => ?hy27_15⟩) ?rest27_15
                            case hy27_15 => ((try dsimp only at hSw); go_simp; try with_reducible rfl)
                            try simp only [Act.put, List.setIfInBounds_toArray, List.set_cons_zero, List.set_cons_succ]
                            refine Left.pure (i := 16) (v := ?v27_16) rfl (by kernel_rfl) (fun _ _ _ h => h) (Or.inr hS) (Or.inl ⟨by kernel_rfl, fun w _ => ?hy27_16⟩) ?rest27_16
                            case hy27_16 => (go_simp; try with_reducible rfl)
                            try simp only [Act.put, List.setIfInBounds_toArray, List.set_cons_zero, List.set_cons_succ]
                            refine Left.pure (i := 17) (v := ?v27_17) rfl (by kernel_rfl) (fun _ _ _ h => h) (Or.inr hS) (Or.inl ⟨by kernel_rfl, fun w _ => ?hy27_17⟩) ?rest27_17
                            case hy27_17 => (go_simp; try with_reducible rfl)
                            try simp only [Act.put, List.setIfInBounds_toArray, List.set_cons_zero, List.set_cons_succ]
                            refine Left.pure (i := 18) (v := ?v27_18) rfl (by kernel_rfl) (fun _ _ _ h => h) (Or.inr hS) (Or.inl ⟨by kernel_rfl, fun w _ => ?hy27_18⟩) ?rest27_18
                            case hy27_18 => (go_simp; try with_reducible rfl)
                            try simp only [Act.put, List.setIfInBounds_toArray, List.set_cons_zero, List.set_cons_succ]
                            refine Left.pure (i := 19) (v := ?v27_19) rfl (by kernel_rfl) (fun _ _ _ h => h) (Or.inr hS) (Or.inl ⟨by kernel_rfl, fun w _ => ?hy27_19⟩) ?rest27_19
                            case hy27_19 => (go_simp; try with_reducible rfl)
                            try simp only [Act.put, List.setIfInBounds_toArray, List.set_cons_zero, List.set_cons_succ]
                            refine Left.run (i := 20) rfl (by kernel_rfl) (fun K hK => ?_)
                            have KA := KQ.out.drew.alloc_under (o := .cells #[.int .i64 ((f1 + f : Nat) : Int), .int .i64 ((f2 + t : Nat) : Int), .int .i64 i] 40)
                            go_simp
                            replace hS : (fun w' : World => w'.cell? ⟨bp, 1, none⟩ = some (.slice A2 m2 c2) ∧ w'.cell? ⟨bn, 1, none⟩ = some (.slice (some ⟨gi, oi, none⟩) I sc) ∧ w'.cell? ⟨gi, oi + i, none⟩ = some (.int .i64 kk) ∧ w'.cell? ⟨gf, kk, none⟩ = some (.int .i64 f1) ∧ w'.cell? ⟨gf, j, none⟩ = some (.int .i64 f2)) (wc.drew.alloc (.cells #[.int .i64 ((f1 + f : Nat) : Int), .int .i64 ((f2 + t : Nat) : Int), .int .i64 i] 40)) := by exact SS.out _ (KQ.out.drew.alloc_ _)
                            refine hK.out _ _ (Or.inr hS) ?_
                            clear hK K
                            try simp only [Act.put, List.setIfInBounds_toArray, List.set_cons_zero, List.set_cons_succ]
                            refine Left.run (i := 21) rfl (by kernel_rfl) (fun K hK => ?_)
                            refine step_append_box (E := EChn) (v := .slice A2 m2 c2) (by rfl) (.tmp 106) (.tmp 125) 28 (by rfl) 40 _ 3 24 Try.underlying28 infoC rfl (by decide) (by decide) rfl (by rfl) (by rfl) ((KQ.out.drew.alloc_ _).at1) (((f1 + f : Nat) : Int), ((f2 + t : Nat) : Int), (i : Int)) (by exact RdL.boxAt _ (by simp)) (by rw [hm2.out]; omega) ?_
                            intro A5 c5 w5 K4
                            rw [hm2.out] at K4
                            rw [hm2.out]
                            replace hS : (fun w' : World => w'.cell? ⟨bp, 1, none⟩ = some (.slice A2 m2 c2) ∧ w'.cell? ⟨bn, 1, none⟩ = some (.slice (some ⟨gi, oi, none⟩) I sc) ∧ w'.cell? ⟨gi, oi + i, none⟩ = some (.int .i64 kk) ∧ w'.cell? ⟨gf, kk, none⟩ = some (.int .i64 f1) ∧ w'.cell? ⟨gf, j, none⟩ = some (.int .i64 f2)) w5 := by exact ⟨K4.at1.cellOf 1 rfl, K4.at2.cellOf 1 rfl, hsv.out _ K4.tail.tail.tail.tail.tail.tail.tail.tail, hF1.out _ _ K4.at5, hF2.out _ _ K4.at5⟩
                            refine hK.out _ _ (Or.inr hS) ?_
                            clear hK K
                            try simp only [Act.put, List.setIfInBounds_toArray, List.set_cons_zero, List.set_cons_succ]
                            refine Left.pure (i := 22) (v := ?v27_22) rfl (by kernel_rfl) (fun _ _ _ h => h) (Or.inr hS) (Or.inl ⟨by kernel_rfl, fun w _ => ?hy27_22⟩) ?rest27_22
                            case hy27_22 => (go_simp; try with_reducible rfl)
                            try simp only [Act.put, List.setIfInBounds_toArray, List.set_cons_zero, List.set_cons_succ]
                            refine Left.run (i := 23) rfl (by kernel_rfl) (fun K hK => ?_)
                            have f9 := K4.at1.frozenOf 1
                            have d9 := K4.at1.cellOf 1 rfl
                            go_simp
                            refine hK.out _ _ (Or.inl (by kernel_rfl)) ?_
                            clear hK K
                            try simp only [Act.put, List.setIfInBounds_toArray, List.set_cons_zero, List.set_cons_succ]
                            refine Left.done (by kernel_rfl) ?_ _
                            rw [← hst5.out] at K4
                            have K5 := Lib.hid (K4.at1.setCellTo 1 (.slice A5 (m2 + 1) c5) #[.slice A m c, .slice A5 (m2 + 1) c5] rfl)
                            clear KQ K4 SS f9 d9 KA
                            go_wp2_with fail
                            go_roundg (tp - (t + 1))
                            case measure => have := hgt.out; omega
                            case rel => exact ⟨t + 1, m2 + 1, A5, c5, by have := hgt.out; omega, by go_num, by show _ = _; rw [hst5.out, List.length_append, hm2.out]; rfl, by omega, K5⟩
                          | false =>
                            rw [if_neg (by simp), List.append_nil] at hst5
                            go_wp2_with fail
                            go_roundg (tp - (t + 1))
                            case measure => have := hgt.out; omega
                            case rel => exact ⟨t + 1, m2, A2, c2, by have := hgt.out; omega, by go_num, by show _ = _; rw [hst5.out]; exact hm2.out, by omega, by rw [hst5.out]; exact K⟩
                      · have ht1 : decide ((t : Int) < (tp : Int)) = false := by rw [decide_eq_false_iff_not]; omega
                        have ht2 : decide (t < tp) = false := by rw [decide_eq_false_iff_not]; omega
                        have hall : (List.range tp).take t = List.range tp := List.take_of_length_le (by rw [List.length_range]; omega)
                        rw [hall, ← hst4.out] at hm2 K
                        clear hlt2 hall
                        go_wp2_with fail
                        go_roundg (py - (f + 1))
                        case measure => have := hgf.out; omega
                        case rel => exact ⟨f + 1, m2, A2, c2, by have := hgf.out; omega, by go_num, hm2, by omega, K⟩
                  · have hf1 : decide ((f : Int) < (py : Int)) = false := by rw [decide_eq_false_iff_not]; omega
                    have hf2 : decide (f < py) = false := by rw [decide_eq_false_iff_not]; omega
                    have hall : (List.range py).take f = List.range py := List.take_of_length_le (by rw [List.length_range]; omega)
                    rw [hall, ← hst3.out] at hm2 K
                    clear hlf hall
                    go_wp2_with fail
                    go_roundg (I - (i + 1))
                    case measure => have := hgi.out; omega
                    case rel => exact ⟨i + 1, m2, A2, c2, by have := hgi.out; omega, by go_num, hm2, by omega, Lib.hid K.out.at3.tail⟩
            · have hi1 : decide ((i : Int) < (I : Int)) = false := by rw [decide_eq_false_iff_not]; omega
              have hi2 : decide (i < I) = false := by rw [decide_eq_false_iff_not]; omega
              have hall : LI.take i = LI := List.take_of_length_le (by rw [hLIn.out]; exact hli)
              rw [hall, ← hst.out] at hm2 K
              clear hli hall
              go_wp2_with fail
              go_roundg (N - (j + 1))
              case measure => have := hg.out; omega
              case rel => exact ⟨j + 1, m2, A2, c2, by have := hg.out; omega, by go_num, hm2, by omega, Lib.hid K.out.at2.tail⟩
        · have hj1 : decide ((j : Int) < (N : Int)) = false := by rw [decide_eq_false_iff_not]; omega
          have hj2 : decide (j < N) = false := by rw [decide_eq_false_iff_not]; omega
          have hall : L.take j = L := List.take_of_length_le (by rw [hLn.out]; exact hlt)
          rw [hall, ← hch.out] at hm2 K
          clear hlt hall
          go_upto_region 28 with (fail)
          have e0 : wr.cell? ⟨bp, 0, none⟩ = some (.slice A m c) := K.out.cellOf 0 rfl
          have e1 : wr.cell? ⟨bp, 1, none⟩ = some (.slice A2 m2 c2) := K.out.cellOf 1 rfl
          have b0 : wr.cell? ⟨br, 0, none⟩ = some (.slice none 0 0) := K.out.at4.cellOf 0 rfl
          have b1 : wr.cell? ⟨br, 1, none⟩ = some (.slice none 0 0) := K.out.at4.cellOf 1 rfl
          have g0 := K.out.at4.frozenOf 0
          have g1 := K.out.at4.frozenOf 1
          go_wp2_with fail
          have K9 := (K.out.at4.setCell (i := 0) (.slice A m c)).setCell (i := 1) (.slice A2 m2 c2)
          generalize World.setCell _ _ _ = w9 at K9 ⊢
          simp only [List.setIfInBounds_toArray, List.set_cons_zero, List.set_cons_succ] at K9
          have q0 : w9.cell? ⟨br, 0, none⟩ = some (.slice A m c) := K9.cellOf 0 rfl
          have q1 : w9.cell? ⟨br, 1, none⟩ = some (.slice A2 m2 c2) := K9.cellOf 1 rfl
          rw [hT.out, hm.out, hm2.out]
          refine bodyPost_ret (v := .agg #[.slice A m c, .slice A2 m2 c2]) ?_ rfl ⟨A, c, A2, c2, rfl, K9.tail.tail.at1.at2.tail.at2.tail⟩
          simp [results, Try.results11, go_sem, q0, q1]
end Go.Proofs.Ytbifajiigpalhaa

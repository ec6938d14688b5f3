import Derived.Test.YtbifajiigpalhaaPd
import Derived.Test.YtbifajiigpalhaaPn
import Derived.Test.YtbifajiigpalhaaAt
import Derived.IntWalk
import Derived.Test.YtbifajiigpalhaaProg
import Derived.Test.YtbifajiigpalhaaLs
import Derived.Outline
import Derived.StillTailTactics
import Derived.Deep.DeepCutAuto
import Derived.Deep.CutBlock
import Derived.Deep.LoopGhost
import Derived.Deep.QuietTactic
import Derived.BigQuiet
import Derived.Deep.RegionHeld3
import Derived.Deep.RegionLaw
set_option linter.unusedVariables false
set_option linter.unusedSimpArgs false
namespace Go.Proofs.Ytbifajiigpalhaa
open Go.RowKit
theorem infoT : (Try.prog.info? 42).map (fun i => (i.zero, i.size, i.bytes)) = some (some (.agg #[.int .i64 0, .int .i64 0]), 2, 16) := by kernel_rfl
theorem infoC : (Try.prog.info? 40).map (fun i => (i.zero, i.size, i.bytes)) = some (some (.agg #[.int .i64 0, .int .i64 0, .int .i64 0]), 3, 24) := by kernel_rfl
theorem Hs.setCellTo {b : Nat} {cs : Array Value} {t : TypeId} {w0 w : World} {R : List HP} (H : Hs w0 w (Blk b (.cells cs t (0, 0)) :: R)) (i : Nat) (v : Value) (cs' : Array Value) (h : cs.setIfInBounds i v = cs') : Hs w0 (w.setCell ⟨b, i, none⟩ v) (Blk b (.cells cs' t (0, 0)) :: R) := h ▸ H.setCell v
def ndv (z : Nd) : List Value := EN.enc z.1
theorem ndv_eq (z : Nd) : (ndv z).toArray = #[.int .i64 z.kind, z.sl, .int .i64 z.par, .int .i64 z.1.2.2.2.1.1, .int .i64 z.1.2.2.2.1.2.1, .slice z.1.2.2.2.1.2.2.1 z.1.2.2.2.1.2.2.2.1 z.1.2.2.2.1.2.2.2.2, .int .i64 z.1.2.2.2.2.1, .int .i64 z.1.2.2.2.2.2.1, .int .i64 z.1.2.2.2.2.2.2.1, .int .i64 z.1.2.2.2.2.2.2.2] := rfl
set_option maxRecDepth 100000 in
set_option maxHeartbeats 8000000 in
theorem make10 (jv : Value) (zs : List Nd) (w w0 : World) (R : List HP) (H : Hs w0 w R) (hj : ∀ w', Hs w0 w' R → JobR w' jv zs) (hn : zs.length ≤ 40) (hins : ∀ z ∈ zs, z.2.length ≤ 40) :
    Calls Try.prog 10 #[.agg #[jv]] w fun e w' => ∃ A c A2 c2, e = .returned (.agg #[.slice A (tasks zs).length c, .slice A2 (chans zs).length c2]) ∧ Hs w0 w' (Ls ETask 42 (.slice A (tasks zs).length c) (tasks zs) :: Ls EChn 40 (.slice A2 (chans zs).length c2) (chans zs) :: R) := by
  obtain ⟨Aj, cj, hv⟩ := (hj w H).form
  subst hv
  have hcj := (hj w H).1.caps.2
  have sz1 : (w.alloc (.cells #[.slice Aj zs.length cj] 24)).heap.size = w.heap.size + 1 := Array.size_push ..
  have K := ((H.alloc (.cells #[.slice Aj zs.length cj] 24)).alloc (.cells #[.slice none 0 0, .slice none 0 0] 30)).alloc (.cells #[.slice none 0 0, .slice none 0 0] 30)
  rw [show ((w.alloc (.cells #[.slice Aj zs.length cj] 24)).alloc (.cells #[.slice none 0 0, .slice none 0 0] 30)).heap.size = w.heap.size + 1 + 1 from (Array.size_push ..).trans (by rw [sz1])] at K
  rw [sz1] at K
  clear sz1
  replace K := Lib.hid K
  clear H
  obtain ⟨N, hN⟩ : ∃ N, zs.length = N := ⟨_, rfl⟩
  rw [hN] at K hj hcj hn ⊢
  replace hN := Lib.hid hN
  replace hj := Lib.hid hj
  replace hins := Lib.hid hins
  go_enter Try.func10, Try.ntmps10
  go_upto_region 2 with (fail)
  generalize World.alloc _ _ = w1 at K ⊢
  generalize w.heap.size + 1 + 1 = bp at K ⊢
  generalize w.heap.size + 1 = br at K ⊢
  generalize w.heap.size = bj at K ⊢
  have b0 : w1.cell? ⟨bj, 0, none⟩ = some (.slice Aj N cj) := K.out.at2.cellOf 0 rfl
  go_wp2_with fail
  clear b0
  obtain ⟨L, hL⟩ : ∃ L, zs.zipIdx = L := ⟨_, rfl⟩
  obtain ⟨F, hF⟩ : ∃ F, (fun x : Nd × Nat => (List.range (tcount x.1)).flatMap fun k : Nat => [((x.2 : Int), (k : Int))]) = F := ⟨_, rfl⟩
  have htk : Hid (tasks zs = L.flatMap F) := by show _ = _; rw [← hL, ← hF]; rfl
  have hLn : Hid (L.length = N) := by show _ = _; rw [← hL, List.length_zipIdx, hN.out]
  have hLx : Hid (∀ j z, zs[j]? = some z → L[j]? = some (z, j)) := fun j z h => by rw [← hL]; exact zipIdx_get zs j z h
  have hfl : Hid (∀ j, j ≤ N → ((L.take j).flatMap F).length ≤ 4 * j) := fun j hj => by
    have := flatMap_len F (L.take j) 4 (fun x _ => by
      rw [← hF]
      have := flatMap_len (fun k : Nat => [((x.2 : Int), (k : Int))]) (List.range (tcount x.1)) 1 (fun _ _ => Nat.le_refl _)
      have := tcount_le x.1
      simp at *
      omega)
    have h2 := List.length_take_le j L
    have := Nat.mul_le_mul_right 4 h2
    omega
  replace hL := Lib.hid hL
  replace hF := Lib.hid hF
  have K2 := Lib.hid (K.out.ls_nil ETask 42).at1
  clear K
  go_loopg [19] N (fun g iv wr => ∃ (j m : Nat) (A : Option Addr) (c : Nat), g + j = N ∧ iv = .int .i64 j ∧ Hid (((L.take j).flatMap F).length = m) ∧
    Hid (Hs w0 wr (Blk bp (.cells #[.slice A m c, .slice none 0 0] 30) :: Ls ETask 42 (.slice A m c) ((L.take j).flatMap F) :: Blk br (.cells #[.slice none 0 0, .slice none 0 0] 30) :: Blk bj (.cells #[.slice Aj N cj] 24) :: R)))
  case atStart => exact ⟨0, 0, none, 0, rfl, rfl, Lib.hid rfl, K2⟩
  case round =>
    clear K2
    obtain ⟨j, m, A, c, hg, rfl, hm, K⟩ := hrel
    have hjn : j ≤ N := by omega
    replace hg := Lib.hid hg
    rcases Nat.lt_or_ge j N with hlt | hlt
    · have hj0 : (0 : Int) ≤ (j : Int) := by omega
      have hj1 : (j : Int) < (N : Int) := by omega
      obtain ⟨z, hz⟩ : ∃ z, zs[j]? = some z := ⟨_, List.getElem?_eq_getElem (by have := hN.out; omega)⟩
      obtain ⟨⟨kd, ⟨sa, sn, sc⟩, pr, ⟨eo, en, ⟨ea, el, ec⟩⟩, ag, ⟨wk, ws, wl⟩⟩, ins⟩ := z
      have hR := K.out.tail.tail.tail.tail
      have hjr := hj.out _ hR
      obtain ⟨gj, oj, rfl⟩ := hjr.1.some_ (by rw [List.length_map]; have := hN.out; omega)
      obtain ⟨c0, c1, c2, c3, c4, c5, c6, c7, c8, c9⟩ := hjr.cells hz
      dsimp only [Nd.kind, Nd.sl, Nd.par] at c0 c1 c2 c3 c4 c5 c6 c7 c8 c9
      have hst : Hid ((L.take (j + 1)).flatMap F = (L.take j).flatMap F ++ (List.range (min pr 4).toNat).flatMap fun k : Nat => [((j : Int), (k : Int))]) := by
        show _ = _
        rw [fm_step F L j _ (hLx.out j _ hz), ← hF.out]
        rfl
      clear hR hjr hz
      go_upto_region 5 with (fail)
      have K2 := Lib.hid (K.out.alloc (.cells #[.int .i64 kd, .slice sa sn sc, .int .i64 pr, .int .i64 eo, .int .i64 en, .slice ea el ec, .int .i64 ag, .int .i64 wk, .int .i64 ws, .int .i64 wl] 54)).at1
      clear c0 c1 c2 c3 c4 c5 c6 c7 c8 c9 K
      generalize World.alloc wr _ = w2 at K2 ⊢
      generalize wr.heap.size = bn at K2 ⊢
      have p2 : w2.cell? ⟨bn, 2, none⟩ = some (.int .i64 pr) := K2.out.at1.cellOf 2 rfl
      obtain ⟨mm, hmm⟩ : ∃ q : Int, min pr 4 = q := ⟨_, rfl⟩
      have hm4 : mm ≤ 4 := by omega
      rw [hmm] at hst
      go_cut [26, 27] (fun bv iv wx => bv = .int .i64 mm ∧ iv = .int .i64 0 ∧ wx = w2)
      case first =>
        rcases (show (4 < pr ∧ mm = 4) ∨ (pr ≤ 4 ∧ mm = pr) by omega) with ⟨h, h'⟩ | ⟨h, h'⟩
        · subst h'
          clear hmm
          go_wp2_with fail
          go_meet
          case rel => exact ⟨rfl, rfl, rfl⟩
        · subst h'
          clear hmm
          go_wp2_with fail
          go_meet
          case rel => exact ⟨rfl, rfl, rfl⟩
      case rest =>
        obtain ⟨hu1, hu2, hu3⟩ := hcut
        subst hu1 hu2 hu3
        clear p2 hmm
        obtain ⟨X, hX⟩ : ∃ X, (L.take j).flatMap F = X := ⟨_, rfl⟩
        rw [hX] at hm K2 hst
        replace hX := Lib.hid hX
        have hXl : m ≤ 160 := by have := hfl.out j hjn; rw [hX.out, hm.out] at this; omega
        have K3 : Hid (Hs w0 wc (Blk bp (.cells #[.slice A m c, .slice none 0 0] 30) :: Ls ETask 42 (.slice A m c) (X ++ ((List.range mm.toNat).take 0).flatMap fun k : Nat => [((j : Int), (k : Int))]) :: Blk br (.cells #[.slice none 0 0, .slice none 0 0] 30) :: Blk bj (.cells #[.slice (some ⟨gj, oj, none⟩) N cj] 24) :: R)) := by
          show Hs _ _ _
          rw [List.take_zero, List.flatMap_nil, List.append_nil]
          exact K2.out.at1.tail
        clear K2
        go_wp2_with fail
        go_loopg [27] mm.toNat (fun g2 iv wr => ∃ (k m2 : Nat) (A2 : Option Addr) (c2 : Nat), g2 + k = mm.toNat ∧ iv = .int .i64 k ∧ m2 = m + k ∧ Hid ((X ++ ((List.range mm.toNat).take k).flatMap fun k : Nat => [((j : Int), (k : Int))]).length = m2) ∧
          Hid (Hs w0 wr (Blk bp (.cells #[.slice A2 m2 c2, .slice none 0 0] 30) :: Ls ETask 42 (.slice A2 m2 c2) (X ++ ((List.range mm.toNat).take k).flatMap fun k : Nat => [((j : Int), (k : Int))]) :: Blk br (.cells #[.slice none 0 0, .slice none 0 0] 30) :: Blk bj (.cells #[.slice (some ⟨gj, oj, none⟩) N cj] 24) :: R)))
        case atStart => exact ⟨0, m, A, c, by omega, rfl, rfl, by show _ = _; rw [List.take_zero, List.flatMap_nil, List.append_nil]; exact hm.out, K3⟩
        case round =>
          clear K3
          obtain ⟨k, m2, A2, c2, hg2, rfl, hm2, hml, K3⟩ := hrel
          replace hg2 := Lib.hid hg2
          have hk4 : m2 ≤ 170 := by have := hg2.out; omega
          replace hm2 := Lib.hid hm2
          rcases Int.lt_or_le (k : Int) mm with hk | hk
          · have hk0 : (0 : Int) ≤ (k : Int) := by omega
            have hw6 : IntKind.i64.wrap ((k : Int) + 1) = ((k + 1 : Nat) : Int) := by rw [IntWalk.i64_in _ (by omega)]; omega
            have hst2 : Hid (X ++ ((List.range mm.toNat).take (k + 1)).flatMap (fun k : Nat => [((j : Int), (k : Int))]) = (X ++ ((List.range mm.toNat).take k).flatMap fun k : Nat => [((j : Int), (k : Int))]) ++ [((j : Int), (k : Int))]) := by
              show _ = _
              rw [fm_step (fun k : Nat => [((j : Int), (k : Int))]) (List.range mm.toNat) k k (by rw [List.getElem?_range (by omega)]), List.append_assoc]
            obtain ⟨Y, hY⟩ : ∃ Y, (X ++ ((List.range mm.toNat).take k).flatMap fun k : Nat => [((j : Int), (k : Int))]) = Y := ⟨_, rfl⟩
            rw [hY] at hst2 hml K3
            clear hY
            have p0 : wr.cell? ⟨bp, 0, none⟩ = some (.slice A2 m2 c2) := K3.out.cellOf 0 rfl
            go_wp2_with (at_builtin; refine wpList_append1N (E := ETask) m2 hml.out rfl (.tmp 31) (.tmp 35) 27 rfl 42 _ 2 16 Try.underlying27 infoT rfl (by decide) (by decide) rfl rfl rfl (by simp) K3.out.at1 ((j : Int), (k : Int)) (by omega) ?_)
            intro A5 c5 w5 K4
            rw [← hst2.out] at K4
            have f0 := K4.at1.frozenOf 0
            have d0 := K4.at1.cellOf 0 rfl
            have K5 := Lib.hid (K4.at1.setCellTo 0 (.slice A5 (m2 + 1) c5) #[.slice A5 (m2 + 1) c5, .slice none 0 0] rfl)
            clear K3 K4 p0
            go_wp2_with fail
            go_roundg (mm.toNat - (k + 1))
            case measure => have := hg2.out; omega
            case rel => exact ⟨k + 1, m2 + 1, A5, c5, by have := hg2.out; omega, by first | rfl | rw [hw6], by have := hm2.out; omega, by show _ = _; rw [hst2.out, List.length_append, hml.out]; rfl, K5⟩
          · have hk1 : decide ((k : Int) < mm) = false := by rw [decide_eq_false_iff_not]; omega
            have hall : (List.range mm.toNat).take k = List.range mm.toNat := List.take_of_length_le (by rw [List.length_range]; omega)
            rw [hall, ← hst.out] at hml K3
            clear hk hall
            go_wp2_with fail
            go_roundg (N - (j + 1))
            case measure => have := hg.out; omega
            case rel => exact ⟨j + 1, m2, A2, c2, by have := hg.out; omega, by go_num, hml, K3⟩
    · have hj1 : decide ((j : Int) < (N : Int)) = false := by rw [decide_eq_false_iff_not]; omega
      have hj2 : decide (j < N) = false := by rw [decide_eq_false_iff_not]; omega
      have hall : L.take j = L := List.take_of_length_le (by rw [hLn.out]; exact hlt)
      rw [hall, ← htk.out] at hm K
      have b0 : wr.cell? ⟨bj, 0, none⟩ = some (.slice Aj N cj) := K.out.at3.cellOf 0 rfl
      have hTl : Hid ((tasks zs).length ≤ 160) := by have := tasks_len zs; have := hN.out; show _ ≤ _; omega
      obtain ⟨T, hT⟩ : ∃ T, tasks zs = T := ⟨_, rfl⟩
      rw [hT] at hm K hTl
      replace hT := Lib.hid hT
      clear hlt hall htk hfl hF
      go_wp2_with fail
      clear b0
      obtain ⟨G, hG⟩ : ∃ G, chn4 zs T = G := ⟨_, rfl⟩
      have hch : Hid (chans zs = L.flatMap G) := by show _ = _; rw [← hL.out, ← hG, ← hT.out]; rfl
      replace hG := Lib.hid hG
      have K2 := Lib.hid (K.out.ls_nil EChn 40).at1
      clear K
      replace hg := hg
      go_loopg [43] N (fun g iv wr => ∃ (j m2 : Nat) (A2 : Option Addr) (c2 : Nat), g + j = N ∧ iv = .int .i64 j ∧ Hid (((L.take j).flatMap G).length = m2) ∧ m2 ≤ 1024000 * j ∧ Hid (Hs w0 wr (Blk bp (.cells #[.slice A m c, .slice A2 m2 c2] 30 (0, 0)) :: Ls EChn 40 (.slice A2 m2 c2) ((L.take j).flatMap G) :: Ls ETask 42 (.slice A m c) T :: Blk br (.cells #[.slice none 0 0, .slice none 0 0] 30 (0, 0)) :: Blk bj (.cells #[.slice Aj N cj] 24 (0, 0)) :: R)))
      case atStart => exact ⟨0, 0, none, 0, rfl, rfl, Lib.hid rfl, Nat.le_refl _, K2⟩
      case round =>
        clear K2
        obtain ⟨j, m2, A2, c2, hg, rfl, hm2, hmb, K⟩ := hrel
        have hjn : j ≤ N := by omega
        replace hg := Lib.hid hg
        rcases Nat.lt_or_ge j N with hlt | hlt
        · have hj0 : (0 : Int) ≤ (j : Int) := by omega
          have hj1 : (j : Int) < (N : Int) := by omega
          obtain ⟨z, hz⟩ : ∃ z, zs[j]? = some z := ⟨_, List.getElem?_eq_getElem (by have := hN.out; omega)⟩
          have hR := K.out.tail.tail.tail.tail.tail
          have hjr := hj.out _ hR
          obtain ⟨gj, oj, rfl⟩ := hjr.1.some_ (by rw [List.length_map]; have := hN.out; omega)
          obtain ⟨⟨kd, ⟨sa, sn, sc⟩, pr, ⟨eo, en, ⟨ea, el, ec⟩⟩, ag, ⟨wk, ws, wl⟩⟩, ins⟩ := z
          obtain ⟨c0, c1, cc2, c3, c4, c5, c6, c7, c8, c9⟩ := hjr.cells hz
          dsimp only [Nd.kind, Nd.sl, Nd.par] at c0 c1 cc2 c3 c4 c5 c6 c7 c8 c9
          have hmem := List.mem_of_getElem? hz
          have hI := hjr.2 _ hmem
          dsimp only [Nd.sl] at hI
          obtain ⟨rfl, hsc⟩ := hI.caps
          have hil := hins.out _ hmem
          dsimp only at hil
          obtain ⟨I, hIn⟩ : ∃ I, ins.length = I := ⟨_, rfl⟩
          obtain ⟨LI, hLI⟩ : ∃ LI, ins.zipIdx = LI := ⟨_, rfl⟩
          obtain ⟨G3, hG3⟩ : ∃ G3, chn3 zs T j ((kd, (sa, ins.length, sc), pr, (eo, en, (ea, el, ec)), ag, (wk, ws, wl)), ins) = G3 := ⟨_, rfl⟩
          have hst : Hid ((L.take (j + 1)).flatMap G = (L.take j).flatMap G ++ LI.flatMap G3) := by
            show _ = _
            rw [fm_step G L j _ (hLx.out j _ hz), ← hG.out, ← hLI, ← hG3]
            rfl
          have hLIn : Hid (LI.length = I) := by show _ = _; rw [← hLI, List.length_zipIdx, hIn]
          have hLIx : Hid (∀ i k, ins[i]? = some k → LI[i]? = some (k, i)) := fun i k h => by rw [← hLI]; exact zipIdx_get ins i k h
          have hG3x : Hid (∀ (k : Int) (i : Nat), G3 (k, i) = if isN N k = true then (chosen (fun y => y.1 == k) T).flatMap (chn2 T (keyed zs j || parOf zs k != pr) j i) else []) := fun k i => by rw [← hG3, ← hN.out]; rfl
          have hII : Hid (∀ w', Hs w0 w' R → RdL (Enc.num .i64) w' (.slice sa I sc) ins) := fun w' h => by have := (hj.out w' h).2 _ hmem; dsimp only [Nd.sl] at this; rwa [hIn] at this
          rw [hIn] at hil hsc c1
          replace hIn := Lib.hid hIn
          replace hmem := Lib.hid hmem
          clear hR hjr hz hI hLI hG3
          go_upto_region 14 with (fail)
          have K2 := (K.out.alloc (.cells #[.int .i64 j] 3)).alloc (.cells #[.int .i64 kd, .slice sa I sc, .int .i64 pr, .int .i64 eo, .int .i64 en, .slice ea el ec, .int .i64 ag, .int .i64 wk, .int .i64 ws, .int .i64 wl] 54)
          rw [show (wr.alloc (.cells #[.int .i64 j] 3)).heap.size = wr.heap.size + 1 from Array.size_push ..] at K2
          clear c0 c1 cc2 c3 c4 c5 c6 c7 c8 c9 K
          generalize World.alloc (World.alloc wr _) _ = w2 at K2 ⊢
          generalize wr.heap.size + 1 = bn at K2 ⊢
          generalize wr.heap.size = bi at K2 ⊢
          have p1 : w2.cell? ⟨bn, 1, none⟩ = some (.slice sa I sc) := K2.cellOf 1 rfl
          obtain ⟨X, hX⟩ : ∃ X, (L.take j).flatMap G = X := ⟨_, rfl⟩
          rw [hX] at hm2 K2 hst
          have K3 : Hid (Hs w0 w2 (Blk bp (.cells #[.slice A m c, .slice A2 m2 c2] 30 (0, 0)) :: Ls EChn 40 (.slice A2 m2 c2) (X ++ (LI.take 0).flatMap G3) :: Ls ETask 42 (.slice A m c) T :: Blk br (.cells #[.slice none 0 0, .slice none 0 0] 30 (0, 0)) :: Blk bj (.cells #[.slice (some ⟨gj, oj, none⟩) N cj] 24 (0, 0)) :: Blk bi (.cells #[.int .i64 j] 3 (0, 0)) :: Blk bn (.cells #[.int .i64 kd, .slice sa I sc, .int .i64 pr, .int .i64 eo, .int .i64 en, .slice ea el ec, .int .i64 ag, .int .i64 wk, .int .i64 ws, .int .i64 wl] 54 (0, 0)) :: R)) := by
            show Hs _ _ _
            rw [List.take_zero, List.flatMap_nil, List.append_nil]
            exact K2.at1.at6.at6.at6.at6.at6
          clear K2 hX
          go_wp2_with fail
          clear p1
          go_loopg [51] I (fun g iv wr => ∃ (i m2 : Nat) (A2 : Option Addr) (c2 : Nat), g + i = I ∧ iv = .int .i64 i ∧ Hid ((X ++ (LI.take i).flatMap G3).length = m2) ∧ m2 ≤ 1024000 * j + 25600 * i ∧ Hid (Hs w0 wr (Blk bp (.cells #[.slice A m c, .slice A2 m2 c2] 30 (0, 0)) :: Ls EChn 40 (.slice A2 m2 c2) (X ++ (LI.take i).flatMap G3) :: Ls ETask 42 (.slice A m c) T :: Blk br (.cells #[.slice none 0 0, .slice none 0 0] 30 (0, 0)) :: Blk bj (.cells #[.slice (some ⟨gj, oj, none⟩) N cj] 24 (0, 0)) :: Blk bi (.cells #[.int .i64 j] 3 (0, 0)) :: Blk bn (.cells #[.int .i64 kd, .slice sa I sc, .int .i64 pr, .int .i64 eo, .int .i64 en, .slice ea el ec, .int .i64 ag, .int .i64 wk, .int .i64 ws, .int .i64 wl] 54 (0, 0)) :: R)))
          case atStart => exact ⟨0, m2, A2, c2, rfl, rfl, by show _ = _; rw [List.take_zero, List.flatMap_nil, List.append_nil]; exact hm2.out, by omega, K3⟩
          case round =>
            clear K3 hmb hm2
            obtain ⟨i, m2, A2, c2, hgi, rfl, hm2, hmb, K⟩ := hrel
            have hin : i ≤ I := by omega
            replace hgi := Lib.hid hgi
            rcases Nat.lt_or_ge i I with hli | hli
            · have hi0 : (0 : Int) ≤ (i : Int) := by omega
              have hi1 : (i : Int) < (I : Int) := by omega
              obtain ⟨k, hk⟩ : ∃ k, ins[i]? = some k := ⟨_, List.getElem?_eq_getElem (by have := hIn.out; omega)⟩
              have hR := K.out.tail.tail.tail.tail.tail.tail.tail
              have hI := hII.out _ hR
              obtain ⟨gi, oi, rfl⟩ := hI.some_ (by have := hIn.out; omega)
              have s0 : wr.cell? ⟨gi, oi + i, none⟩ = some (.int .i64 k) := by have := hI.cell hk 0 rfl; simpa [Enc.num] using this
              have hst3 : Hid (X ++ (LI.take (i + 1)).flatMap G3 = (X ++ (LI.take i).flatMap G3) ++ (if isN N k = true then (chosen (fun y => y.1 == k) T).flatMap (chn2 T (keyed zs j || parOf zs k != pr) j i) else [])) := by
                show _ = _
                rw [fm_step G3 LI i _ (hLIx.out i k hk), hG3x.out, List.append_assoc]
              clear hR hI hk
              go_upto_region 17 with (fail)
              have K2 := Lib.hid (K.out.alloc (.cells #[.int .i64 k] 3))
              clear s0 K
              generalize World.alloc wr _ = w3 at K2 ⊢
              generalize wr.heap.size = bk at K2 ⊢
              obtain ⟨Y, hY⟩ : ∃ Y, X ++ (LI.take i).flatMap G3 = Y := ⟨_, rfl⟩
              rw [hY] at hm2 K2 hst3
              clear hY
              have q0 : w3.cell? ⟨bk, 0, none⟩ = some (.int .i64 k) := K2.out.cellOf 0 rfl
              have q1 : w3.cell? ⟨bj, 0, none⟩ = some (.slice (some ⟨gj, oj, none⟩) N cj) := K2.out.at5.cellOf 0 rfl
              go_wp2_with fail
              refine (is29 (.slice (some ⟨gj, oj, none⟩) N cj) zs w3 w0 _ K2.out (hj.out _ K2.out.tail.tail.tail.tail.tail.tail.tail.tail) k).mono ?_
              rw [hN.out]
              rintro e w4 ⟨rfl, K3, hwo⟩
              clear hwo K2 q0 q1
              replace K3 := Lib.hid K3
              cases hisn : isN N k with
              | false =>
                rw [hisn] at hst3
                simp only [Bool.false_eq_true, if_false, List.append_nil] at hst3
                clear hisn
                go_wp2_with fail
                go_roundg (I - (i + 1))
                case measure => have := hgi.out; omega
                case rel => exact ⟨i + 1, m2, A2, c2, by have := hgi.out; omega, by go_num, by show _ = _; rw [hst3.out]; exact hm2.out, by omega, by rw [hst3.out]; exact Lib.hid K3.out.tail⟩
              | true =>
                rw [hisn, if_pos rfl] at hst3
                have hkz := hisn
                unfold isN at hkz
                simp only [Bool.and_eq_true, decide_eq_true_eq] at hkz
                obtain ⟨kk, rfl⟩ := Int.eq_ofNat_of_zero_le hkz.1
                obtain ⟨zk, hzk⟩ : ∃ z, zs[kk]? = some z := ⟨_, List.getElem?_eq_getElem (by have := hN.out; omega)⟩
                have hpk : parOf zs (kk : Int) = zk.par := by unfold parOf; rw [Int.toNat_natCast, hzk]
                obtain ⟨park, hpark⟩ : ∃ q, zk.par = q := ⟨_, rfl⟩
                rw [hpk, hpark] at hst3
                have hkk0 : (0 : Int) ≤ (kk : Int) := hkz.1
                have hkk1 : (kk : Int) < (N : Int) := hkz.2
                have hpc : Hid (∀ w', Hs w0 w' R → w'.cell? ⟨gj, oj + kk * 10 + 2, none⟩ = some (.int .i64 park)) := fun w' h => by rw [← hpark]; exact ((hj.out w' h).cells hzk).2.2.1
                clear hkz hisn hpk hpark hzk zk
                obtain ⟨ky, hky⟩ : ∃ b, keyed zs (j : Int) = b := ⟨_, rfl⟩
                rw [hky] at hst3
                have Tk := Lib.hid (fun w' (R' : List HP) (h : Hs w0 w' R') (h2 : JobR w' (.slice (some ⟨gj, oj, none⟩) N cj) zs) => keyed18 (.slice (some ⟨gj, oj, none⟩) N cj) zs w' w0 R' h h2 (j : Int))
                rw [hky] at Tk
                clear hky
                have SS : Hid (∀ wx, Hs w0 wx (Blk bk (.cells #[.int .i64 kk] 3 (0, 0)) :: Blk bp (.cells #[.slice A m c, .slice A2 m2 c2] 30 (0, 0)) :: Ls EChn 40 (.slice A2 m2 c2) (Y) :: Ls ETask 42 (.slice A m c) T :: Blk br (.cells #[.slice none 0 0, .slice none 0 0] 30 (0, 0)) :: Blk bj (.cells #[.slice (some ⟨gj, oj, none⟩) N cj] 24 (0, 0)) :: Blk bi (.cells #[.int .i64 j] 3 (0, 0)) :: Blk bn (.cells #[.int .i64 kd, .slice (some ⟨gi, oi, none⟩) I sc, .int .i64 pr, .int .i64 eo, .int .i64 en, .slice ea el ec, .int .i64 ag, .int .i64 wk, .int .i64 ws, .int .i64 wl] 54 (0, 0)) :: R) → wx.cell? ⟨bj, 0, none⟩ = some (.slice (some ⟨gj, oj, none⟩) N cj) ∧ wx.cell? ⟨bi, 0, none⟩ = some (.int .i64 j) ∧ wx.cell? ⟨bk, 0, none⟩ = some (.int .i64 kk) ∧ wx.cell? ⟨bn, 2, none⟩ = some (.int .i64 pr) ∧ wx.cell? ⟨gj, oj + kk * 10 + 2, none⟩ = some (.int .i64 park)) :=
                  fun wx h => ⟨h.at5.cellOf 0 rfl, h.at6.cellOf 0 rfl, h.cellOf 0 rfl, h.at7.cellOf 2 rfl, hpc.out _ h.tail.tail.tail.tail.tail.tail.tail.tail⟩
                go_upto_region 18 with (fail)
                obtain ⟨al, hal⟩ : ∃ b, (ky || park != pr) = b := ⟨_, rfl⟩
                rw [hal] at hst3
                replace hal := Lib.hid hal
                go_cut [11] (fun bv wx => bv = .bool al ∧ Hid (Hs w0 wx (Blk bk (.cells #[.int .i64 kk] 3 (0, 0)) :: Blk bp (.cells #[.slice A m c, .slice A2 m2 c2] 30 (0, 0)) :: Ls EChn 40 (.slice A2 m2 c2) (Y) :: Ls ETask 42 (.slice A m c) T :: Blk br (.cells #[.slice none 0 0, .slice none 0 0] 30 (0, 0)) :: Blk bj (.cells #[.slice (some ⟨gj, oj, none⟩) N cj] 24 (0, 0)) :: Blk bi (.cells #[.int .i64 j] 3 (0, 0)) :: Blk bn (.cells #[.int .i64 kd, .slice (some ⟨gi, oi, none⟩) I sc, .int .i64 pr, .int .i64 eo, .int .i64 en, .slice ea el ec, .int .i64 ag, .int .i64 wk, .int .i64 ws, .int .i64 wl] 54 (0, 0)) :: R)))
                case first =>
                  cases ky with
                  | true =>
                    have hal2 : Hid (al = true) := by show _ = _; rw [← hal.out]; rfl
                    refine wp_region_left (S := fun wx : World => wx.cell? ⟨bj, 0, none⟩ = some (.slice (some ⟨gj, oj, none⟩) N cj) ∧ wx.cell? ⟨bi, 0, none⟩ = some (.int .i64 j) ∧ wx.cell? ⟨bk, 0, none⟩ = some (.int .i64 kk) ∧ wx.cell? ⟨bn, 2, none⟩ = some (.int .i64 pr) ∧ wx.cell? ⟨gj, oj + kk * 10 + 2, none⟩ = some (.int .i64 park)) 2 mixed ?_
                    have hS : (fun wx : World => wx.cell? ⟨bj, 0, none⟩ = some (.slice (some ⟨gj, oj, none⟩) N cj) ∧ wx.cell? ⟨bi, 0, none⟩ = some (.int .i64 j) ∧ wx.cell? ⟨bk, 0, none⟩ = some (.int .i64 kk) ∧ wx.cell? ⟨bn, 2, none⟩ = some (.int .i64 pr) ∧ wx.cell? ⟨gj, oj + kk * 10 + 2, none⟩ = some (.int .i64 park)) w4.drew := by exact SS.out _ K3.out.drew
                    refine Left.take (i := 0) (v := ?v18_0) rfl (by kernel_rfl) (fun _ _ _ h => h) hS (Or.inl ⟨by kernel_rfl, fun w hSw => ?hy18_0⟩) ?rest18_0
                    case hy18_0 => ((try dsimp only at hSw); go_simp; try with_reducible rfl)
                    try simp only [Act.put, List.setIfInBounds_toArray, List.set_cons_zero, List.set_cons_succ]
                    refine Left.take (i := 1) (v := ?v18_1) rfl (by kernel_rfl) (fun _ _ _ h => h) hS (Or.inl ⟨by kernel_rfl, fun w hSw => ?hy18_1⟩) ?rest18_1
                    case hy18_1 => ((try dsimp only at hSw); go_simp; try with_reducible rfl)
                    try simp only [Act.put, List.setIfInBounds_toArray, List.set_cons_zero, List.set_cons_succ]
                    refine Left.run (i := 2) rfl (by kernel_rfl) (fun K hK => ?_)
                    go_simp
                    go_at_call 18
                    refine (Tk.out _ _ K3.out.drew (hj.out _ K3.out.drew.tail.tail.tail.tail.tail.tail.tail.tail)).mono ?_
                    rintro e w6 ⟨rfl, K4⟩
                    go_simp
                    refine hK.out _ _ (Or.inl (by kernel_rfl)) ?_
                    clear hK K
                    try simp only [Act.put, List.setIfInBounds_toArray, List.set_cons_zero, List.set_cons_succ]
                    refine Left.pure (i := 3) (v := ?v18_3) rfl (by kernel_rfl) (fun _ _ _ h => h) (Or.inl (by kernel_rfl)) (Or.inl ⟨by kernel_rfl, fun w _ => ?hy18_3⟩) ?rest18_3
                    case hy18_3 => (go_simp; try with_reducible rfl)
                    try simp only [Act.put, List.setIfInBounds_toArray, List.set_cons_zero, List.set_cons_succ]
                    refine Left.pure (i := 4) (v := undef) rfl (by kernel_rfl) (fun _ _ _ h => h) (Or.inl (by kernel_rfl)) (Or.inr ⟨by kernel_rfl, rfl⟩) ?rest18_4
                    try simp only [Act.put, List.setIfInBounds_toArray, List.set_cons_zero, List.set_cons_succ]
                    refine Left.pure (i := 5) (v := undef) rfl (by kernel_rfl) (fun _ _ _ h => h) (Or.inl (by kernel_rfl)) (Or.inr ⟨by kernel_rfl, rfl⟩) ?rest18_5
                    try simp only [Act.put, List.setIfInBounds_toArray, List.set_cons_zero, List.set_cons_succ]
                    refine Left.pure (i := 6) (v := undef) rfl (by kernel_rfl) (fun _ _ _ h => h) (Or.inl (by kernel_rfl)) (Or.inr ⟨by kernel_rfl, rfl⟩) ?rest18_6
                    try simp only [Act.put, List.setIfInBounds_toArray, List.set_cons_zero, List.set_cons_succ]
                    refine Left.pure (i := 7) (v := undef) rfl (by kernel_rfl) (fun _ _ _ h => h) (Or.inl (by kernel_rfl)) (Or.inr ⟨by kernel_rfl, rfl⟩) ?rest18_7
                    try simp only [Act.put, List.setIfInBounds_toArray, List.set_cons_zero, List.set_cons_succ]
                    refine Left.pure (i := 8) (v := undef) rfl (by kernel_rfl) (fun _ _ _ h => h) (Or.inl (by kernel_rfl)) (Or.inr ⟨by kernel_rfl, rfl⟩) ?rest18_8
                    try simp only [Act.put, List.setIfInBounds_toArray, List.set_cons_zero, List.set_cons_succ]
                    refine Left.pure (i := 9) (v := undef) rfl (by kernel_rfl) (fun _ _ _ h => h) (Or.inl (by kernel_rfl)) (Or.inr ⟨by kernel_rfl, rfl⟩) ?rest18_9
                    try simp only [Act.put, List.setIfInBounds_toArray, List.set_cons_zero, List.set_cons_succ]
                    refine Left.pure (i := 10) (v := undef) rfl (by kernel_rfl) (fun _ _ _ h => h) (Or.inl (by kernel_rfl)) (Or.inr ⟨by kernel_rfl, rfl⟩) ?rest18_10
                    try simp only [Act.put, List.setIfInBounds_toArray, List.set_cons_zero, List.set_cons_succ]
                    refine Left.pure (i := 11) (v := undef) rfl (by kernel_rfl) (fun _ _ _ h => h) (Or.inl (by kernel_rfl)) (Or.inr ⟨by kernel_rfl, rfl⟩) ?rest18_11
                    try simp only [Act.put, List.setIfInBounds_toArray, List.set_cons_zero, List.set_cons_succ]
                    refine Left.pure (i := 12) (v := undef) rfl (by kernel_rfl) (fun _ _ _ h => h) (Or.inl (by kernel_rfl)) (Or.inr ⟨by kernel_rfl, rfl⟩) ?rest18_12
                    try simp only [Act.put, List.setIfInBounds_toArray, List.set_cons_zero, List.set_cons_succ]
                    refine Left.pure (i := 13) (v := ?v18_13) rfl (by kernel_rfl) (fun _ _ _ h => h) (Or.inl (by kernel_rfl)) (Or.inl ⟨by kernel_rfl, fun w _ => ?hy18_13⟩) ?rest18_13
                    case hy18_13 => (go_simp; try with_reducible rfl)
                    try simp only [Act.put, List.setIfInBounds_toArray, List.set_cons_zero, List.set_cons_succ]
                    refine Left.pure (i := 14) (v := ?v18_14) rfl (by kernel_rfl) (fun _ _ _ h => h) (Or.inl (by kernel_rfl)) (Or.inl ⟨by kernel_rfl, fun w _ => ?hy18_14⟩) ?rest18_14
                    case hy18_14 => (go_simp; try with_reducible rfl)
                    try simp only [Act.put, List.setIfInBounds_toArray, List.set_cons_zero, List.set_cons_succ]
                    refine Left.done (by kernel_rfl) ?_ _
                    replace K4 := Lib.hid K4
                    go_wp2_with fail
                    go_meet
                    case rel => exact ⟨by rw [hal2.out], K4⟩
                  | false =>
                    have hal2 : Hid (al = (park != pr)) := by show _ = _; rw [← hal.out]; rfl
                    go_region_held3 (fun wx => wx.cell? ⟨bj, 0, none⟩ = some (.slice (some ⟨gj, oj, none⟩) N cj) ∧ wx.cell? ⟨bi, 0, none⟩ = some (.int .i64 j) ∧ wx.cell? ⟨bk, 0, none⟩ = some (.int .i64 kk) ∧ wx.cell? ⟨bn, 2, none⟩ = some (.int .i64 pr) ∧ wx.cell? ⟨gj, oj + kk * 10 + 2, none⟩ = some (.int .i64 park))
                      (first | exact SS.out _ K3.out.drew | exact SS.out _ K4)
                      (first | (go_at_call 18; refine (Tk.out _ _ K3.out.drew (hj.out _ K3.out.drew.tail.tail.tail.tail.tail.tail.tail.tail)).mono ?_; rintro e w6 ⟨rfl, K4⟩))
                    replace K4 := Lib.hid K4
                    go_wp2_with fail
                    go_meet
                    case rel => exact ⟨by rw [hal2.out], K4⟩
                case rest =>
                  obtain ⟨rfl, K4⟩ := hcut
                  clear K3 SS Tk hal
                  have p0 : wc.cell? ⟨bp, 0, none⟩ = some (.slice A m c) := K4.out.at1.cellOf 0 rfl
                  go_wp2_with fail
                  refine (chosen31 bk kk (.slice A m c) T wc w0 _ K4.out (fun w' h => h.at2.ls_rd) (by have := hTl.out; omega)).mono ?_
                  rintro e w5 ⟨Af, cf, rfl, K5⟩
                  clear K4 p0
                  have hfin := Lib.hid (chosen_in (fun x : Int × Int => x.1 == (kk : Int)) T)
                  have hfl2 := chosen_len (fun x : Int × Int => x.1 == (kk : Int)) T
                  obtain ⟨fs, hfs⟩ : ∃ l, chosen (fun x : Int × Int => x.1 == (kk : Int)) T = l := ⟨_, rfl⟩
                  rw [hfs] at hfin hfl2 hst3 K5 ⊢
                  clear hfs
                  obtain ⟨nf, hnf⟩ : ∃ n, fs.length = n := ⟨_, rfl⟩
                  rw [hnf] at hfl2 K5 ⊢
                  have hnf160 : nf ≤ 160 := by have := hTl.out; omega
                  have hcf := K5.ls_rd.caps.2
                  clear hfl2
                  replace hnf := Lib.hid hnf
                  obtain ⟨G2, hG2⟩ : ∃ G2, chn2 T al j i = G2 := ⟨_, rfl⟩
                  rw [hG2] at hst3
                  replace hG2 := Lib.hid hG2
                  have K6 : Hid (Hs w0 w5 (Blk bp (.cells #[.slice A m c, .slice A2 m2 c2] 30 (0, 0)) :: Ls EChn 40 (.slice A2 m2 c2) (Y ++ (fs.take 0).flatMap G2) :: Ls ETask 42 (.slice A m c) T :: Blk br (.cells #[.slice none 0 0, .slice none 0 0] 30 (0, 0)) :: Blk bj (.cells #[.slice (some ⟨gj, oj, none⟩) N cj] 24 (0, 0)) :: Blk bi (.cells #[.int .i64 j] 3 (0, 0)) :: Blk bn (.cells #[.int .i64 kd, .slice (some ⟨gi, oi, none⟩) I sc, .int .i64 pr, .int .i64 eo, .int .i64 en, .slice ea el ec, .int .i64 ag, .int .i64 wk, .int .i64 ws, .int .i64 wl] 54 (0, 0)) :: Blk bk (.cells #[.int .i64 kk] 3 (0, 0)) :: Ls (Enc.num .i64) 3 (.slice Af nf cf) fs :: R)) := by
                    show Hs _ _ _
                    rw [List.take_zero, List.flatMap_nil, List.append_nil]
                    exact K5.at1.at8.at8.at8.at8.at8.at8.at8
                  clear K5
                  go_wp2_with fail
                  go_loopg [79] nf (fun g iv wr => ∃ (f m2 : Nat) (A2 : Option Addr) (c2 : Nat), g + f = nf ∧ iv = .int .i64 f ∧ Hid ((Y ++ (fs.take f).flatMap G2).length = m2) ∧ m2 ≤ 1024000 * j + 25600 * i + 160 * f ∧ Hid (Hs w0 wr (Blk bp (.cells #[.slice A m c, .slice A2 m2 c2] 30 (0, 0)) :: Ls EChn 40 (.slice A2 m2 c2) (Y ++ (fs.take f).flatMap G2) :: Ls ETask 42 (.slice A m c) T :: Blk br (.cells #[.slice none 0 0, .slice none 0 0] 30 (0, 0)) :: Blk bj (.cells #[.slice (some ⟨gj, oj, none⟩) N cj] 24 (0, 0)) :: Blk bi (.cells #[.int .i64 j] 3 (0, 0)) :: Blk bn (.cells #[.int .i64 kd, .slice (some ⟨gi, oi, none⟩) I sc, .int .i64 pr, .int .i64 eo, .int .i64 en, .slice ea el ec, .int .i64 ag, .int .i64 wk, .int .i64 ws, .int .i64 wl] 54 (0, 0)) :: Blk bk (.cells #[.int .i64 kk] 3 (0, 0)) :: Ls (Enc.num .i64) 3 (.slice Af nf cf) fs :: R)))
                  case atStart => exact ⟨0, m2, A2, c2, rfl, rfl, by show _ = _; rw [List.take_zero, List.flatMap_nil, List.append_nil]; exact hm2.out, by omega, K6⟩
                  case round =>
                    clear K6 hmb hm2
                    obtain ⟨f, m2, A2, c2, hgf, rfl, hm2, hmb, K⟩ := hrel
                    have hfn : f ≤ nf := by omega
                    replace hgf := Lib.hid hgf
                    rcases Nat.lt_or_ge f nf with hlf | hlf
                    · have hf0 : (0 : Int) ≤ (f : Int) := by omega
                      have hf1 : (f : Int) < (nf : Int) := by omega
                      obtain ⟨x, hx⟩ : ∃ x, fs[f]? = some x := ⟨_, List.getElem?_eq_getElem (by have := hnf.out; omega)⟩
                      obtain ⟨hx0, hx1⟩ := hfin.out x (List.mem_of_getElem? hx)
                      obtain ⟨ff, rfl⟩ := Int.eq_ofNat_of_zero_le hx0
                      obtain ⟨gf, of_, rfl⟩ := K.out.at8.ls_rd.some_ (by have := hnf.out; omega)
                      have s0 : wr.cell? ⟨gf, of_ + f, none⟩ = some (.int .i64 ff) := by have := K.out.at8.ls_rd.cell hx 0 rfl; simpa [Enc.num] using this
                      have p0 : wr.cell? ⟨bp, 0, none⟩ = some (.slice A m c) := K.out.cellOf 0 rfl
                      have hst4 : Hid (Y ++ (fs.take (f + 1)).flatMap G2 = (Y ++ (fs.take f).flatMap G2) ++ (chosen (fun x => x.1 == (j : Int)) T).flatMap (chn1 T al ff i)) := by
                        show _ = _
                        rw [fm_step G2 fs f _ hx, ← hG2.out, List.append_assoc]
                        rfl
                      obtain ⟨⟨nda, pf⟩, hTf⟩ : ∃ y, T[ff]? = some y := ⟨_, List.getElem?_eq_getElem (by omega)⟩
                      have hpf : Hid (partOf T (ff : Int) = pf) := by show _ = _; unfold partOf; rw [Int.toNat_natCast, hTf]
                      replace hTf := Lib.hid hTf
                      clear hx hx0
                      go_wp2_with fail
                      refine (chosen32 bi j (.slice A m c) T wr w0 _ K.out.at5 (fun w' h => h.at2.ls_rd) (by have := hTl.out; omega)).mono ?_
                      rintro e w6 ⟨At, ct, rfl, K5⟩
                      clear s0 p0
                      have htin := Lib.hid (chosen_in (fun x : Int × Int => x.1 == (j : Int)) T)
                      have htl2 := chosen_len (fun x : Int × Int => x.1 == (j : Int)) T
                      obtain ⟨ts, hts⟩ : ∃ l, chosen (fun x : Int × Int => x.1 == (j : Int)) T = l := ⟨_, rfl⟩
                      rw [hts] at htin htl2 hst4 K5 ⊢
                      clear hts
                      obtain ⟨nt, hnt⟩ : ∃ n, ts.length = n := ⟨_, rfl⟩
                      rw [hnt] at htl2 K5 ⊢
                      have hnt160 : nt ≤ 160 := by have := hTl.out; omega
                      have hct := K5.ls_rd.caps.2
                      clear htl2
                      replace hnt := Lib.hid hnt
                      obtain ⟨Z, hZ⟩ : ∃ Z, Y ++ (fs.take f).flatMap G2 = Z := ⟨_, rfl⟩
                      rw [hZ] at hm2 hst4 K5
                      clear hZ
                      obtain ⟨G1, hG1⟩ : ∃ G1, chn1 T al ff i = G1 := ⟨_, rfl⟩
                      rw [hG1] at hst4
                      replace hG1 := Lib.hid hG1
                      have K6 : Hid (Hs w0 w6 (Blk bp (.cells #[.slice A m c, .slice A2 m2 c2] 30 (0, 0)) :: Ls EChn 40 (.slice A2 m2 c2) (Z ++ (ts.take 0).flatMap G1) :: Ls ETask 42 (.slice A m c) T :: Blk br (.cells #[.slice none 0 0, .slice none 0 0] 30 (0, 0)) :: Blk bj (.cells #[.slice (some ⟨gj, oj, none⟩) N cj] 24 (0, 0)) :: Blk bi (.cells #[.int .i64 j] 3 (0, 0)) :: Blk bn (.cells #[.int .i64 kd, .slice (some ⟨gi, oi, none⟩) I sc, .int .i64 pr, .int .i64 eo, .int .i64 en, .slice ea el ec, .int .i64 ag, .int .i64 wk, .int .i64 ws, .int .i64 wl] 54 (0, 0)) :: Blk bk (.cells #[.int .i64 kk] 3 (0, 0)) :: Ls (Enc.num .i64) 3 (.slice (some ⟨gf, of_, none⟩) nf cf) fs :: Ls (Enc.num .i64) 3 (.slice At nt ct) ts :: R)) := by
                        show Hs _ _ _
                        rw [List.take_zero, List.flatMap_nil, List.append_nil]
                        exact K5.at9.at9.at9.at9.at9.at9.at9.at9.at9.at5.at5.at5.at5.at5
                      clear K5 K
                      go_wp2_with fail
                      go_loopg [88] nt (fun g iv wr => ∃ (t m2 : Nat) (A2 : Option Addr) (c2 : Nat), g + t = nt ∧ iv = .int .i64 t ∧ Hid ((Z ++ (ts.take t).flatMap G1).length = m2) ∧ m2 ≤ 1024000 * j + 25600 * i + 160 * f + t ∧ Hid (Hs w0 wr (Blk bp (.cells #[.slice A m c, .slice A2 m2 c2] 30 (0, 0)) :: Ls EChn 40 (.slice A2 m2 c2) (Z ++ (ts.take t).flatMap G1) :: Ls ETask 42 (.slice A m c) T :: Blk br (.cells #[.slice none 0 0, .slice none 0 0] 30 (0, 0)) :: Blk bj (.cells #[.slice (some ⟨gj, oj, none⟩) N cj] 24 (0, 0)) :: Blk bi (.cells #[.int .i64 j] 3 (0, 0)) :: Blk bn (.cells #[.int .i64 kd, .slice (some ⟨gi, oi, none⟩) I sc, .int .i64 pr, .int .i64 eo, .int .i64 en, .slice ea el ec, .int .i64 ag, .int .i64 wk, .int .i64 ws, .int .i64 wl] 54 (0, 0)) :: Blk bk (.cells #[.int .i64 kk] 3 (0, 0)) :: Ls (Enc.num .i64) 3 (.slice (some ⟨gf, of_, none⟩) nf cf) fs :: Ls (Enc.num .i64) 3 (.slice At nt ct) ts :: R)))
                      case atStart => exact ⟨0, m2, A2, c2, rfl, rfl, by show _ = _; rw [List.take_zero, List.flatMap_nil, List.append_nil]; exact hm2.out, by omega, K6⟩
                      case round =>
                        clear K6 hmb hm2
                        obtain ⟨t, m2, A2, c2, hgt, rfl, hm2, hmb, K⟩ := hrel
                        have htn : t ≤ nt := by omega
                        replace hgt := Lib.hid hgt
                        rcases Nat.lt_or_ge t nt with hlt2 | hlt2
                        · have ht0 : (0 : Int) ≤ (t : Int) := by omega
                          have ht1 : (t : Int) < (nt : Int) := by omega
                          obtain ⟨x, hx⟩ : ∃ x, ts[t]? = some x := ⟨_, List.getElem?_eq_getElem (by have := hnt.out; omega)⟩
                          obtain ⟨hx0, hx2⟩ := htin.out x (List.mem_of_getElem? hx)
                          obtain ⟨tt, rfl⟩ := Int.eq_ofNat_of_zero_le hx0
                          obtain ⟨gq, oq, rfl⟩ := K.out.at9.ls_rd.some_ (by have := hnt.out; omega)
                          have s0 : wr.cell? ⟨gq, oq + t, none⟩ = some (.int .i64 tt) := by have := K.out.at9.ls_rd.cell hx 0 rfl; simpa [Enc.num] using this
                          obtain ⟨⟨ndb, pt⟩, hTt⟩ : ∃ y, T[tt]? = some y := ⟨_, List.getElem?_eq_getElem (by omega)⟩
                          have hst5 : Hid (Z ++ (ts.take (t + 1)).flatMap G1 = (Z ++ (ts.take t).flatMap G1) ++ (if (al || pf == pt) = true then [((ff : Int), (tt : Int), (i : Int))] else [])) := by
                            show _ = _
                            rw [fm_step G1 ts t _ hx, ← hG1.out, List.append_assoc]
                            unfold chn1
                            rw [hpf.out, show partOf T (tt : Int) = pt by unfold partOf; rw [Int.toNat_natCast, hTt]]
                          obtain ⟨V, hV⟩ : ∃ V, Z ++ (ts.take t).flatMap G1 = V := ⟨_, rfl⟩
                          rw [hV] at hm2 K hst5
                          clear hV hx hx0
                          have p0 : wr.cell? ⟨bp, 0, none⟩ = some (.slice A m c) := K.out.cellOf 0 rfl
                          obtain ⟨gT, oT, rfl⟩ := K.out.at2.ls_rd.some_ (by omega)
                          have t0 : wr.cell? ⟨gT, oT + ff * 2 + 1, none⟩ = some (.int .i64 pf) := K.out.at2.ls_rd.cell hTf.out 1 rfl
                          have t1 : wr.cell? ⟨gT, oT + tt * 2 + 1, none⟩ = some (.int .i64 pt) := K.out.at2.ls_rd.cell hTt 1 rfl
                          have hff0 : (0 : Int) ≤ (ff : Int) := by omega
                          have htt0 : (0 : Int) ≤ (tt : Int) := by omega
                          have hmT : m ≤ c ∧ c ≤ 9223372036854775807 := K.out.at2.ls_rd.caps.2
                          have hffm : (ff : Int) < (m : Int) := by have := hm.out; omega
                          have httm : (tt : Int) < (m : Int) := by have := hm.out; omega
                          replace hTt := Lib.hid hTt
                          go_upto_region 25 with (fail)
                          obtain ⟨yes, hyes⟩ : ∃ b, (al || pf == pt) = b := ⟨_, rfl⟩
                          rw [hyes] at hst5
                          replace hyes := Lib.hid hyes
                          go_cut [107] (fun bv wx => bv = .bool yes ∧ ∃ q, wx = wr.drewN q)
                          case first =>
                            clear K
                            cases al with
                            | true =>
                              have hy2 : Hid (yes = true) := by show _ = _; rw [← hyes.out]; rfl
                              go_quiet (fail)
                              go_wp2_with fail
                              go_meet
                              case rel => exact ⟨by rw [hy2.out], _, rfl⟩
                            | false =>
                              have hy2 : Hid (yes = (pf == pt)) := by show _ = _; rw [← hyes.out]; rfl
                              go_quiet (fail)
                              go_wp2_with fail
                              go_meet
                              case rel => exact ⟨by rw [hy2.out], _, rfl⟩
                          case rest =>
                            obtain ⟨hu1, q, hu2⟩ := hcut
                            subst hu1 hu2
                            have K2 := Lib.hid (K.out.drewN q)
                            clear K p0 t0 t1
                            generalize World.drewN wr q = w8 at K2 ⊢
                            cases yes with
                            | true =>
                              rw [if_pos rfl] at hst5
                              have p1 : w8.cell? ⟨bp, 1, none⟩ = some (.slice A2 m2 c2) := K2.out.cellOf 1 rfl
                              go_wp2_with (at_builtin; refine wpList_append1N (E := EChn) m2 hm2.out rfl (.tmp 109) (.tmp 114) 28 rfl 40 _ 3 24 Try.underlying28 infoC rfl (by decide) (by decide) rfl rfl rfl (by simp) K2.out.at1 ((ff : Int), (tt : Int), (i : Int)) (by omega) ?_)
                              intro A5 c5 w5 K4
                              rw [← hst5.out] at K4
                              have f1 := K4.at1.frozenOf 1
                              have d1 := K4.at1.cellOf 1 rfl
                              have K5 := Lib.hid (K4.at1.setCellTo 1 (.slice A5 (m2 + 1) c5) #[.slice (some ⟨gT, oT, none⟩) m c, .slice A5 (m2 + 1) c5] rfl)
                              clear K2 K4 p1
                              go_wp2_with fail
                              go_roundg (nt - (t + 1))
                              case measure => have := hgt.out; omega
                              case rel => exact ⟨t + 1, m2 + 1, A5, c5, by have := hgt.out; omega, by go_num, by show _ = _; rw [hst5.out, List.length_append, hm2.out]; rfl, by omega, K5⟩
                            | false =>
                              rw [if_neg (by simp), List.append_nil] at hst5
                              go_wp2_with fail
                              go_roundg (nt - (t + 1))
                              case measure => have := hgt.out; omega
                              case rel => exact ⟨t + 1, m2, A2, c2, by have := hgt.out; omega, by go_num, by show _ = _; rw [hst5.out]; exact hm2.out, by omega, by rw [hst5.out]; exact K2⟩
                        · have ht1 : decide ((t : Int) < (nt : Int)) = false := by rw [decide_eq_false_iff_not]; omega
                          have ht2 : decide (t < nt) = false := by rw [decide_eq_false_iff_not]; omega
                          have hall : ts.take t = ts := List.take_of_length_le (by rw [hnt.out]; exact hlt2)
                          rw [hall, ← hst4.out] at hm2 K
                          clear hlt2 hall
                          go_wp2_with fail
                          go_roundg (nf - (f + 1))
                          case measure => have := hgf.out; omega
                          case rel => exact ⟨f + 1, m2, A2, c2, by have := hgf.out; omega, by go_num, hm2, by omega, Lib.hid K.out.at9.tail⟩
                    · have hf1 : decide ((f : Int) < (nf : Int)) = false := by rw [decide_eq_false_iff_not]; omega
                      have hf2 : decide (f < nf) = false := by rw [decide_eq_false_iff_not]; omega
                      have hall : fs.take f = fs := List.take_of_length_le (by rw [hnf.out]; exact hlf)
                      rw [hall, ← hst3.out] at hm2 K
                      clear hlf hall
                      go_wp2_with fail
                      go_roundg (I - (i + 1))
                      case measure => have := hgi.out; omega
                      case rel => exact ⟨i + 1, m2, A2, c2, by have := hgi.out; omega, by go_num, hm2, by omega, Lib.hid K.out.at7.tail.at7.tail⟩
            · have hi1 : decide ((i : Int) < (I : Int)) = false := by rw [decide_eq_false_iff_not]; omega
              have hi2 : decide (i < I) = false := by rw [decide_eq_false_iff_not]; omega
              have hall : LI.take i = LI := List.take_of_length_le (by rw [hLIn.out]; exact hli)
              rw [hall, ← hst.out] at hm2 K
              clear hli hall
              go_wp2_with fail
              go_roundg (N - (j + 1))
              case measure => have := hg.out; omega
              case rel => exact ⟨j + 1, m2, A2, c2, by have := hg.out; omega, by go_num, hm2, by omega, Lib.hid K.out.at5.tail.at5.tail⟩
        · have hj1 : decide ((j : Int) < (N : Int)) = false := by rw [decide_eq_false_iff_not]; omega
          have hj2 : decide (j < N) = false := by rw [decide_eq_false_iff_not]; omega
          have hall : L.take j = L := List.take_of_length_le (by rw [hLn.out]; exact hlt)
          rw [hall, ← hch.out] at hm2 K
          clear hlt hall
          go_upto_region 31 with (fail)
          have e0 : wr.cell? ⟨bp, 0, none⟩ = some (.slice A m c) := K.out.cellOf 0 rfl
          have e1 : wr.cell? ⟨bp, 1, none⟩ = some (.slice A2 m2 c2) := K.out.cellOf 1 rfl
          have b0 : wr.cell? ⟨br, 0, none⟩ = some (.slice none 0 0) := K.out.at3.cellOf 0 rfl
          have b1 : wr.cell? ⟨br, 1, none⟩ = some (.slice none 0 0) := K.out.at3.cellOf 1 rfl
          have g0 := K.out.at3.frozenOf 0
          have g1 := K.out.at3.frozenOf 1
          go_wp2_with fail
          have K9 := (K.out.at3.setCell (i := 0) (.slice A m c)).setCell (i := 1) (.slice A2 m2 c2)
          generalize World.setCell _ _ _ = w9 at K9 ⊢
          simp only [List.setIfInBounds_toArray, List.set_cons_zero, List.set_cons_succ] at K9
          have q0 : w9.cell? ⟨br, 0, none⟩ = some (.slice A m c) := K9.cellOf 0 rfl
          have q1 : w9.cell? ⟨br, 1, none⟩ = some (.slice A2 m2 c2) := K9.cellOf 1 rfl
          rw [hT.out, hm.out, hm2.out]
          refine bodyPost_ret (v := .agg #[.slice A m c, .slice A2 m2 c2]) ?_ rfl ⟨A, c, A2, c2, rfl, K9.tail.tail.at2.tail.at1⟩
          simp [results, Try.results10, go_sem, q0, q1]
end Go.Proofs.Ytbifajiigpalhaa

import Derived.Test.YtjlonfldcmcchaaPe
import Derived.Test.YtjlonfldcmcchaaProg
import Derived.Test.YtjlonfldcmcchaaLs
import Derived.Outline
import Derived.StillTailTactics
import Derived.Deep.DeepCutAuto
import Derived.Deep.CutBlock
import Derived.Deep.LoopGhost
import Derived.Deep.QuietTactic
import Derived.BigQuiet
import Derived.Deep.RegionHeld3
import Derived.Deep.RegionLaw
set_option linter.unusedVariables false
set_option linter.unusedSimpArgs false
namespace Go.Proofs.Ytjlonfldcmcchaa
open Go.RowKit
set_option maxRecDepth 100000 in
theorem staged22 (lp : Nat) (n : Int) (s : Lg) (w w0 : World) (R : List HP) (H : Hs w0 w (Log lp s :: R)) (hs : (s.pt n).Ok) : Calls Try.prog 22 #[.pointer (some ⟨lp, 0, none⟩), .int .i64 n] w fun e w' => ∃ A c, e = .returned (.slice A (s.pt n).staged.length c) ∧ Hs w0 w' (Ls (Enc.num .u64) 32 (.slice A (s.pt n).staged.length c) (s.pt n).staged :: Log lp s :: R) := by
  have hof := of_any lp n s w w0 R H
  clear H
  obtain ⟨hs1, hs2⟩ := hs
  obtain ⟨N, hN⟩ : ∃ N, (s.pt n).l.length = N := ⟨_, rfl⟩
  obtain ⟨D, hD⟩ : ∃ D, (s.pt n).dn = D := ⟨_, rfl⟩
  rw [hN, hD] at hs1
  rw [hN] at hs2
  obtain ⟨M, hM⟩ : ∃ M, N - D = M := ⟨_, rfl⟩
  replace hN := Lib.hid hN
  replace hD := Lib.hid hD
  replace hM := Lib.hid hM
  replace hs1 := Lib.hid hs1
  go_enter Try.func22, Try.ntmps22
  go_wp2_with fail
  refine hof.mono ?_
  rintro e w1 ⟨q, m, A, c, ps, Q, rfl, hf, H⟩
  obtain ⟨A0, c0, vs, hl, H⟩ := Part.open_ H
  rw [hN.out, hD.out] at H
  rw [hN.out] at hl
  have k0 : w1.cell? ⟨q, 0, none⟩ = some (.slice A0 N c0) := H.cellOf 0 rfl
  have k1 : w1.cell? ⟨q, 1, none⟩ = some (.int .i64 D) := H.cellOf 1 rfl
  have hcap := H.at1.ls_rd.caps.2
  obtain ⟨A2, hA2, hcut⟩ := cut_drop Try.prog 64 68 2 Try.underlying64 (by kernel_rfl) A0 N c0 D hs1.out
  rw [hM.out] at hcut
  have hr : Hid (∀ w' R', Hs w0 w' (Ls ETx 68 (.slice A0 N c0) vs :: R') → RdL ETx w' (.slice A2 M (c0 - D)) (vs.drop D)) := by
    intro w' R' h
    have h1 := RdL.dropA (sz := 2) h.ls_rd hs1.out rfl hA2
    rw [hM.out] at h1
    exact h1
  have hvl : Hid ((vs.drop D).length = M) := by show _ = _; rw [List.length_drop, hl]; exact hM.out
  replace hl := Lib.hid hl
  replace H := Lib.hid H
  go_wp2_with fail
  go_quiet (fail)
  go_wp2_with fail
  generalize hw2 : World.drewN w1 _ = w2
  obtain ⟨kk, hw2⟩ : ∃ kk, World.drewN w1 kk = w2 := ⟨_, hw2⟩
  replace H := Lib.hid (H.out.drewN kk)
  rw [hw2] at H
  clear hw2 k0 k1
  go_loopg [22, 5] M (fun k i o wr => ∃ (j : Nat) (A1 : Option Addr) (c1 : Nat) (ot : List Int), k + j = M ∧ i = .int .i64 j ∧ o = .slice A1 ot.length c1 ∧ Hid (ot = (((s.pt n).l.drop D).take j).map (·.1)) ∧ Hid (Hs w0 wr (Ls (Enc.num .u64) 32 (.slice A1 ot.length c1) ot :: Blk q (.cells #[.slice A0 N c0, .int .i64 D] 66 (0, 0)) :: Ls ETx 68 (.slice A0 N c0) vs :: TxS vs (s.pt n).l :: Blk lp (.cells #[.map (some m), .slice A s.all.length c] 61 (0, 0)) :: Mp .i64 m ps :: Ls ERec 39 (.slice A s.all.length c) s.all :: Q :: R)))
  case atStart => exact ⟨0, none, 0, [], rfl, rfl, rfl, by show _ = _; simp, H.out.ls_nil (Enc.num .u64) 32⟩
  case round =>
    clear H
    obtain ⟨j, A1, c1, ot, hk, rfl, rfl, ho, H⟩ := hrel
    have hjn : j ≤ M := by omega
    replace hk := Lib.hid hk
    have hotl : Hid (ot.length = j) := by show _ = _; rw [ho.out, List.length_map, List.length_take, List.length_drop, hN.out, hM.out]; omega
    rcases Nat.lt_or_ge j M with hj | hj
    · obtain ⟨x, hx⟩ : ∃ x, (s.pt n).l[D + j]? = some x := ⟨_, List.getElem?_eq_getElem (by have := hN.out; have := hM.out; omega)⟩
      obtain ⟨A3, c3, hv, _⟩ := TxS.get _ _ (D + j) x H.out.at3 hx
      have hv2 : (vs.drop D)[j]? = some (x.1, A3, x.2.length, c3) := by rw [List.getElem?_drop]; exact hv
      have hrd := hr.out wr _ H.out.at2
      obtain ⟨g, off, rfl⟩ := hrd.some_ (by have := (List.getElem?_eq_some_iff.1 hv2).1; omega)
      have cx : wr.cell? ⟨g, off + j * 2, none⟩ = some (.int .u64 x.1) := hrd.cell hv2 0 rfl
      have cy : wr.cell? ⟨g, off + j * 2 + 1, none⟩ = some (.slice A3 x.2.length c3) := by have := hrd.cell hv2 1 rfl; rwa [show off + (j * ETx.sz + 1) = off + j * 2 + 1 from by show off + (j * 2 + 1) = _; omega] at this
      have hj0 : (0 : Int) ≤ (j : Int) := by omega
      have hj1 : (j : Int) < (M : Int) := by omega
      have hstep : Hid (((s.pt n).l.drop D).take (j + 1) = ((s.pt n).l.drop D).take j ++ [x]) := by show _ = _; rw [List.take_add_one, List.getElem?_drop, hx]; rfl
      have hM6 : M ≤ 1000000 := by have := hM.out; omega
      replace hv := Lib.hid hv
      replace hv2 := Lib.hid hv2
      replace hx := Lib.hid hx
      clear hrd
      go_wp2_with (at_builtin; refine wpList_append1N (E := Enc.num .u64) ot.length rfl rfl (.tmp 26) (.tmp 29) 47 rfl 32 _ 1 8 Try.underlying47 info32 rfl (by decide) (by decide) rfl rfl rfl (by simp) (H.out.alloc_ _) x.1 (by have := hotl.out; omega) ?_)
      intro A4 c4 w3 H3
      go_wp2_with fail
      go_roundg (M - (j + 1))
      case measure => have := hk.out; omega
      case rel =>
        refine ⟨j + 1, A4, c4, ot ++ [x.1], by have := hk.out; omega, by go_num, by simp, ?_, ?_⟩
        · show _ = _
          rw [hstep.out, List.map_append, ← ho.out]
          rfl
        · show Hs _ _ _
          rw [List.length_append]
          exact H3
    · have hj2 : (M : Int) ≤ (j : Int) := by omega
      have he : Hid (ot = (s.pt n).staged) := by
        show _ = _
        rw [ho.out, List.take_of_length_le (by rw [List.length_drop, hN.out, hM.out]; omega), ← hD.out]
        rfl
      go_wp2_with fail
      go_ret
      rw [← he.out]
      have H5 := H.out.at7.at7.at7.at7.at7.at7.at7
      rw [← hD.out, ← hN.out] at H5
      have H6 := hf.shut _ (.inl rfl) (Part.mk_ H5)
      rw [upd_same] at H6
      exact ⟨_, _, rfl, H6.at1⟩
end Go.Proofs.Ytjlonfldcmcchaa

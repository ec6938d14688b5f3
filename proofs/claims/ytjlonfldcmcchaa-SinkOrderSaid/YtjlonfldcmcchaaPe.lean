import Derived.Test.YtjlonfldcmcchaaPd
import Derived.Test.YtjlonfldcmcchaaSx
import Derived.Test.YtjlonfldcmcchaaProg
import Derived.Test.YtjlonfldcmcchaaLs
import Derived.Outline
import Derived.StillTailTactics
import Derived.Deep.DeepCutAuto
import Derived.Deep.CutBlock
import Derived.Deep.LoopGhost
import Derived.Deep.QuietTactic
import Derived.BigQuiet
import Derived.Deep.RegionHeld3
import Derived.Deep.RegionLaw
set_option linter.unusedVariables false
set_option linter.unusedSimpArgs false
namespace Go.Proofs.Ytjlonfldcmcchaa
open Go.RowKit
def cutAt (l : List (Int × List Rec)) (dn : Nat) (t : Int) : Nat → Nat
  | 0 => 0
  | k + 1 => if dn < k + 1 ∧ t < ((l[k]?.map (·.1)).getD 0) then cutAt l dn t k else k + 1
def Lg.abort (s : Lg) (n t : Int) : Lg := ⟨upd s.pt n ⟨(s.pt n).l.take (cutAt (s.pt n).l (s.pt n).dn t (s.pt n).l.length), (s.pt n).dn⟩, s.all⟩
def Pt.upto (s : Pt) (t : Int) : List Rec := (s.l.filter fun x => decide (x.1 ≤ t)).flatMap (·.2)
def Pt.staged (s : Pt) : List Int := (s.l.drop s.dn).map (·.1)
theorem zero32 (w : World) : (zeroValue 32).run Try.prog w = .ok (.int .u64 0) w := by kernel_rfl
theorem info32 : (Try.prog.info? 32).map (fun i => (i.zero, i.size, i.bytes)) = some (some (.int .u64 0), 1, 8) := by kernel_rfl
section
variable (lp : Nat) (n t : Int) (s : Lg) (w w0 : World) (R : List HP) (H : Hs w0 w (Log lp s :: R)) (hs : (s.pt n).Ok)
include H hs
set_option maxRecDepth 100000 in
theorem abort15 : Calls Try.prog 15 #[.pointer (some ⟨lp, 0, none⟩), .int .i64 n, .int .u64 t] w fun e w' => e = .returned (.tuple #[]) ∧ Hs w0 w' (Log lp (s.abort n t) :: R) := by
  have hof := of_any lp n s w w0 R H
  clear H
  obtain ⟨hs1, hs2⟩ := hs
  obtain ⟨N, hN⟩ : ∃ N, (s.pt n).l.length = N := ⟨_, rfl⟩
  rw [hN] at hs1 hs2
  replace hN := Lib.hid hN
  go_enter Try.func15, Try.ntmps15
  go_wp2_with fail
  refine hof.mono ?_
  rintro e w1 ⟨q, m, A, c, ps, Q, rfl, hf, H⟩
  obtain ⟨A0, c0, vs, hl, H⟩ := Part.open_ H
  rw [hN.out] at H hl
  have k0 : w1.cell? ⟨q, 0, none⟩ = some (.slice A0 N c0) := H.cellOf 0 rfl
  have hcap := H.at1.ls_rd.caps.2
  replace hl := Lib.hid hl
  replace H := Lib.hid H
  go_wp2_with fail
  go_loopg [7] N (fun k v wr => ∃ (j : Nat), k = j ∧ v = .int .i64 j ∧ Hid (cutAt (s.pt n).l (s.pt n).dn t j = cutAt (s.pt n).l (s.pt n).dn t N) ∧ j ≤ N ∧ Hid (Hs w0 wr (Blk q (.cells #[.slice A0 j c0, .int .i64 (s.pt n).dn] 66 (0, 0)) :: Ls ETx 68 (.slice A0 j c0) (vs.take j) :: TxS vs (s.pt n).l :: Blk lp (.cells #[.map (some m), .slice A s.all.length c] 61 (0, 0)) :: Mp .i64 m ps :: Ls ERec 39 (.slice A s.all.length c) s.all :: Q :: R)))
  case atStart => exact ⟨N, rfl, rfl, rfl, Nat.le_refl _, by show Hs _ _ _; rw [List.take_of_length_le (by have := hl.out; omega)]; exact H.out⟩
  case round =>
    clear H k0
    obtain ⟨j, hk, rfl, hcut, hj, H⟩ := hrel
    replace hk := Lib.hid hk
    have k0 : wr.cell? ⟨q, 0, none⟩ = some (.slice A0 j c0) := H.out.cellOf 0 rfl
    have k1 : wr.cell? ⟨q, 1, none⟩ = some (.int .i64 (s.pt n).dn) := H.out.cellOf 1 rfl
    have fin : Hid (∀ w', (s.pt n).dn ≤ N → cutAt (s.pt n).l (s.pt n).dn t j = j → Hs w0 w' (Blk q (.cells #[.slice A0 j c0, .int .i64 (s.pt n).dn] 66 (0, 0)) :: Ls ETx 68 (.slice A0 j c0) (vs.take j) :: TxS vs (s.pt n).l :: Blk lp (.cells #[.map (some m), .slice A s.all.length c] 61 (0, 0)) :: Mp .i64 m ps :: Ls ERec 39 (.slice A s.all.length c) s.all :: Q :: R) → Hs w0 w' (Log lp (s.abort n t) :: R)) := by
      intro w' h1 h2 H
      have hc := hcut.out
      rw [h2] at hc
      have H5 := Part.mk_ (s := ⟨(s.pt n).l.take j, (s.pt n).dn⟩) (TxS.take_ _ _ j H.at2).at2.at2
      have hx : (⟨(s.pt n).l.take j, (s.pt n).dn⟩ : Pt) = s.pt n ∨ (s.pt n).l ≠ [] := by
        by_cases h : (s.pt n).l = []
        · left
          cases hp : s.pt n with
          | mk l d => rw [hp] at h; simp only at h; subst h; simp
        · exact .inr h
      have H6 := hf.shut _ hx H5
      unfold Lg.abort
      rw [hN.out, ← hc]
      exact H6
    cases j with
    | zero =>
      have hd : decide ((0 : Int) > ((s.pt n).dn : Int)) = false := by rw [decide_eq_false_iff_not]; omega
      simp only [Int.natCast_zero] at k0 ⊢
      go_wp2_with fail
      go_end0
      exact ⟨rfl, fin.out _ hs1 rfl H.out⟩
    | succ i =>
      obtain ⟨x, hx⟩ : ∃ x, (s.pt n).l[i]? = some x := ⟨_, List.getElem?_eq_getElem (by have := hN.out; omega)⟩
      obtain ⟨A2, c2, hv, hrx⟩ := TxS.get _ _ i x H.out.at2 hx
      have hv2 : (vs.take (i + 1))[i]? = some (x.1, A2, x.2.length, c2) := by rw [List.getElem?_take, if_pos (by omega), hv]
      obtain ⟨g, off, rfl⟩ := H.out.at1.ls_rd.some_ (by have := (List.getElem?_eq_some_iff.1 hv2).1; omega)
      have cx : wr.cell? ⟨g, off + i * 2, none⟩ = some (.int .u64 x.1) := H.out.at1.ls_rd.cell hv2 0 rfl
      have hw : IntKind.i64.wrap (((i + 1 : Nat) : Int) - 1) = (i : Int) := by rw [IntWalk.i64_in _ (by omega)]; omega
      have hi0 : (0 : Int) ≤ (i : Int) := by omega
      have hi1 : (i : Int) < ((i + 1 : Nat) : Int) := by omega
      replace hv := Lib.hid hv
      clear hrx
      by_cases hd : (s.pt n).dn < i + 1
      · have hd1 : ((s.pt n).dn : Int) < (i : Int) + 1 := by omega
        by_cases hxt : t < x.1
        · have hb1 : decide (t < x.1) = true := by rw [decide_eq_true_iff]; omega
          have hsl := cut_take Try.prog 64 68 2 Try.underlying64 (by kernel_rfl) (some ⟨g, off, none⟩) (i + 1) c0 i (by omega)
          have hc2 : Hid (cutAt (s.pt n).l (s.pt n).dn t i = cutAt (s.pt n).l (s.pt n).dn t N) := by
            show _ = _
            rw [← hcut.out, cutAt, if_pos ⟨hd, by rw [hx]; exact hxt⟩]
          replace hx := Lib.hid hx
          have f0 := H.out.frozenOf 0
          clear hd hxt fin hv2
          go_wp2_with fail
          go_roundg i
          case measure => have := hk.out; omega
          case rel =>
            have H5 := (H.out.setCell (i := 0) (.slice (some ⟨g, off, none⟩) i c0)).at1.ls_take i (by omega)
            rw [List.take_take, Nat.min_eq_left (by omega)] at H5
            exact ⟨i, rfl, rfl, hc2, by omega, H5.at1⟩
        · have hb1 : decide (t < x.1) = false := by rw [decide_eq_false_iff_not]; omega
          have hc2 : Hid (cutAt (s.pt n).l (s.pt n).dn t (i + 1) = i + 1) := by show _ = _; rw [cutAt, if_neg (fun h => hxt (by have := h.2; rw [hx] at this; exact this))]
          replace hx := Lib.hid hx
          clear hd hxt hv2
          go_wp2_with fail
          go_end0
          exact ⟨rfl, fin.out _ hs1 hc2.out H.out⟩
      · have hd1 : decide (((s.pt n).dn : Int) < (i : Int) + 1) = false := by rw [decide_eq_false_iff_not]; omega
        have hc2 : Hid (cutAt (s.pt n).l (s.pt n).dn t (i + 1) = i + 1) := by show _ = _; rw [cutAt, if_neg (fun h => hd h.1)]
        clear hd
        go_wp2_with fail
        go_end0
        exact ⟨rfl, fin.out _ hs1 hc2.out H.out⟩
set_option maxRecDepth 100000 in
theorem upto24 (hb : ((s.pt n).l.flatMap (·.2)).length ≤ 1000000) : Calls Try.prog 24 #[.pointer (some ⟨lp, 0, none⟩), .int .i64 n, .int .u64 t] w fun e w' => ∃ A c, e = .returned (.slice A ((s.pt n).upto t).length c) ∧ Hs w0 w' (Ls ERec 39 (.slice A ((s.pt n).upto t).length c) ((s.pt n).upto t) :: Log lp s :: R) := by
  have hof := of_any lp n s w w0 R H
  clear H
  obtain ⟨hs1, hs2⟩ := hs
  obtain ⟨N, hN⟩ : ∃ N, (s.pt n).l.length = N := ⟨_, rfl⟩
  rw [hN] at hs1 hs2
  replace hN := Lib.hid hN
  replace hb := Lib.hid hb
  clear hs1
  go_enter Try.func24, Try.ntmps24
  go_wp2_with fail
  refine hof.mono ?_
  rintro e w1 ⟨q, m, A, c, ps, Q, rfl, hf, H⟩
  obtain ⟨A0, c0, vs, hl, H⟩ := Part.open_ H
  rw [hN.out] at H hl
  have k0 : w1.cell? ⟨q, 0, none⟩ = some (.slice A0 N c0) := H.cellOf 0 rfl
  have hcap := H.at1.ls_rd.caps.2
  replace hl := Lib.hid hl
  replace H := Lib.hid H
  go_wp2_with fail
  go_loopg [17, 7] N (fun k i o wr => ∃ (j : Nat) (A1 : Option Addr) (c1 : Nat) (ot : List Rec), k + j = N ∧ i = .int .i64 j ∧ o = .slice A1 ot.length c1 ∧ Hid (ot = (((s.pt n).l.take j).filter fun x => decide (x.1 ≤ t)).flatMap (·.2)) ∧ Hid (Hs w0 wr (Ls ERec 39 (.slice A1 ot.length c1) ot :: Blk q (.cells #[.slice A0 N c0, .int .i64 (s.pt n).dn] 66 (0, 0)) :: Ls ETx 68 (.slice A0 N c0) vs :: TxS vs (s.pt n).l :: Blk lp (.cells #[.map (some m), .slice A s.all.length c] 61 (0, 0)) :: Mp .i64 m ps :: Ls ERec 39 (.slice A s.all.length c) s.all :: Q :: R)))
  case atStart => exact ⟨0, none, 0, [], rfl, rfl, rfl, by show _ = _; simp, H.out.ls_nil ERec 39⟩
  case round =>
    clear H k0
    obtain ⟨j, A1, c1, ot, hk, rfl, rfl, ho, H⟩ := hrel
    have hjn : j ≤ N := by omega
    replace hk := Lib.hid hk
    rcases Nat.lt_or_ge j N with hj | hj
    · obtain ⟨x, hx⟩ : ∃ x, (s.pt n).l[j]? = some x := ⟨_, List.getElem?_eq_getElem (by have := hN.out; omega)⟩
      obtain ⟨A2, c2, hv, hrx⟩ := TxS.get _ _ j x H.out.at3 hx
      obtain ⟨g, off, rfl⟩ := H.out.at2.ls_rd.some_ (by have := (List.getElem?_eq_some_iff.1 hv).1; omega)
      have cx : wr.cell? ⟨g, off + j * 2, none⟩ = some (.int .u64 x.1) := H.out.at2.ls_rd.cell hv 0 rfl
      have cy : wr.cell? ⟨g, off + j * 2 + 1, none⟩ = some (.slice A2 x.2.length c2) := by have := H.out.at2.ls_rd.cell hv 1 rfl; rwa [show off + (j * ETx.sz + 1) = off + j * 2 + 1 from by show off + (j * 2 + 1) = _; omega] at this
      have hj0 : (0 : Int) ≤ (j : Int) := by omega
      have hj1 : (j : Int) < (N : Int) := by omega
      have hstep : Hid (((s.pt n).l.take (j + 1)) = (s.pt n).l.take j ++ [x]) := by show _ = _; rw [List.take_add_one, hx]; rfl
      have hbn : Hid (ot.length + x.2.length ≤ 1000000) := by
        show _ ≤ _
        have h1 := hb.out
        have h2 : (s.pt n).l = (s.pt n).l.take j ++ ([x] ++ (s.pt n).l.drop (j + 1)) := by rw [← List.append_assoc, ← hstep.out, List.take_append_drop]
        have h3 := congrArg (fun l => (l.flatMap (·.2)).length) h2
        simp only [List.flatMap_append, List.length_append, List.flatMap_cons, List.flatMap_nil, List.append_nil] at h3
        have h4 : ∀ l : List (Int × List Rec), ((l.filter fun x => decide (x.1 ≤ t)).flatMap (·.2)).length ≤ (l.flatMap (·.2)).length := by
          intro l
          induction l with
          | nil => simp
          | cons a l ih =>
            rw [List.filter_cons]
            split
            · simp only [List.flatMap_cons, List.length_append]; omega
            · simp only [List.flatMap_cons, List.length_append]; omega
        have h5 := h4 ((s.pt n).l.take j)
        rw [ho.out]
        omega
      replace hv := Lib.hid hv
      replace hrx := Lib.hid hrx
      replace hx := Lib.hid hx
      by_cases hxt : x.1 ≤ t
      · have hb1 : decide (x.1 ≤ t) = true := by simpa using hxt
        have hr2 : Hid (∀ o : Obj, RdL ERec (wr.alloc o) (.slice A2 x.2.length c2) x.2) := fun o => hrx.out.alloc o
        clear hxt
        go_wp2_with (at_builtin; refine wpList_appendL rfl (.tmp 25) (.tmp 27) 29 rfl 39 _ 3 24 Try.underlying29 infoc29 rfl (by decide) (by decide) rfl rfl _ rfl (H.out.alloc_ _) (hr2.out _) (by have := hbn.out; omega) ?_)
        intro A3 c3 w3 H3
        go_wp2_with fail
        go_roundg (N - (j + 1))
        case measure => have := hk.out; omega
        case rel =>
          rw [← List.length_append] at H3
          refine ⟨j + 1, A3, c3, ot ++ x.2, by have := hk.out; omega, by go_num, by rw [List.length_append], ?_, H3⟩
          show _ = _
          rw [hstep.out, List.filter_append, List.flatMap_append, ← ho.out]
          simp [hb1]
      · have hb1 : decide (x.1 ≤ t) = false := by simpa using hxt
        clear hxt
        go_wp2_with fail
        go_roundg (N - (j + 1))
        case measure => have := hk.out; omega
        case rel =>
          refine ⟨j + 1, A1, c1, ot, by have := hk.out; omega, by go_num, rfl, ?_, H.out.alloc_ _⟩
          show _ = _
          rw [hstep.out, List.filter_append, List.flatMap_append, ← ho.out]
          simp [hb1]
    · have hj2 : (N : Int) ≤ (j : Int) := by omega
      have he : Hid (ot = (s.pt n).upto t) := by
        show _ = _
        rw [ho.out, List.take_of_length_le (by have := hN.out; omega)]
        rfl
      go_wp2_with fail
      go_ret
      rw [← he.out]
      have H6 := hf.shut _ (.inl rfl) (Part.mk_ H.out.at7.at7.at7.at7.at7.at7.at7)
      rw [upd_same] at H6
      exact ⟨_, _, rfl, H6.at1⟩
end
end Go.Proofs.Ytjlonfldcmcchaa

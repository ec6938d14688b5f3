import Derived.Test.YtjlonfldcmcchaaPb
import Derived.Test.YtjlonfldcmcchaaPn
import Derived.Test.YtjlonfldcmcchaaSv
import Derived.Test.YtjlonfldcmcchaaProg
import Derived.Test.YtjlonfldcmcchaaLs
import Derived.Outline
import Derived.StillTailTactics
import Derived.Deep.DeepCutAuto
import Derived.Deep.CutBlock
import Derived.Deep.LoopGhost
import Derived.Deep.QuietTactic
import Derived.BigQuiet
import Derived.Deep.RegionHeld3
import Derived.Deep.RegionLaw
set_option linter.unusedVariables false
set_option linter.unusedSimpArgs false
namespace Go.Proofs.Ytjlonfldcmcchaa
open Go.RowKit
theorem zero68 (w : World) : (zeroValue 68).run Try.prog w = .ok (.agg #[.int .u64 0, .slice none 0 0]) w := by kernel_rfl
theorem info68 : (Try.prog.info? 68).map (fun i => (i.zero, i.size, i.bytes)) = some (some (.agg #[.int .u64 0, .slice none 0 0]), 2, 32) := by kernel_rfl
def Pt.top (s : Pt) : Int := (s.l.getLast?.map (·.1)).getD 0
def Lg.put (s : Lg) (n t : Int) (recs : List Rec) : Lg := ⟨upd s.pt n ⟨(s.pt n).l ++ [(t, recs)], (s.pt n).dn⟩, s.all⟩
theorem top_of {s : Pt} {k : Nat} {x : Int × List Rec} (hk : s.l.length = k + 1) (hx : s.l[k]? = some x) : s.top = x.1 := by
  unfold Pt.top
  rw [List.getLast?_eq_getElem?, hk, Nat.add_sub_cancel, hx]
  rfl
set_option maxRecDepth 100000 in
theorem stage_no (lp : Nat) (n t : Int) (rv : Value) (s : Lg) (w w0 : World) (R : List HP) (H : Hs w0 w (Log lp s :: R)) (hs : (s.pt n).Ok) (h0 : 0 ≤ t) (ht : t ≤ (s.pt n).top) :
    Calls Try.prog 11 #[.pointer (some ⟨lp, 0, none⟩), .int .i64 n, .int .u64 t, rv] w fun e w' => e = .returned (.int .i64 170) ∧ Hs w0 w' (Log lp s :: R) := by
  have hof := of_any lp n s w w0 R H
  clear H
  have hsl := hs.2
  clear hs
  rcases (show t = 0 ∨ 0 < t by omega) with rfl | ht0
  · go_enter Try.func11, Try.ntmps11
    go_wp2_with fail
    refine hof.mono ?_
    rintro e w1 ⟨q, m, A, c, ps, Q, rfl, hf, H⟩
    have HF := Lib.hid (hf.shut _ (.inl rfl) H)
    obtain ⟨A0, c0, vs, hl, H⟩ := Part.open_ H
    have k0 : w1.cell? ⟨q, 0, none⟩ = some (.slice A0 (s.pt n).l.length c0) := H.cellOf 0 rfl
    go_wp2_with fail
    go_ret
    have := HF.out
    rw [upd_same] at this
    exact ⟨rfl, this⟩
  · have hz : (t == 0) = false := by rw [beq_eq_false_iff_ne]; omega
    obtain ⟨k, hk⟩ : ∃ k, (s.pt n).l.length = k + 1 := by
      cases hl : (s.pt n).l.length with
      | zero => rw [List.length_eq_zero_iff] at hl; simp [Pt.top, hl] at ht; omega
      | succ k => exact ⟨k, rfl⟩
    obtain ⟨x, hx⟩ : ∃ x, (s.pt n).l[k]? = some x := ⟨_, List.getElem?_eq_getElem (by omega)⟩
    rw [top_of hk hx] at ht
    replace hk := Lib.hid hk
    replace hx := Lib.hid hx
    have hkb : k ≤ 1000000 := by have := hk.out; omega
    have hw : IntKind.i64.wrap (((k + 1 : Nat) : Int) - 1) = (k : Int) := by rw [IntWalk.i64_in _ (by omega)]; omega
    have hpos : (0 : Int) < ((k + 1 : Nat) : Int) := by omega
    have hk0 : (0 : Int) ≤ (k : Int) := by omega
    have hk1 : (k : Int) < ((k + 1 : Nat) : Int) := by omega
    clear hsl
    go_enter Try.func11, Try.ntmps11
    go_wp2_with fail
    refine hof.mono ?_
    rintro e w1 ⟨q, m, A, c, ps, Q, rfl, hf, H⟩
    have HF := Lib.hid (hf.shut _ (.inl rfl) H)
    obtain ⟨A0, c0, vs, hl, H⟩ := Part.open_ H
    obtain ⟨A2, c2, hv, _⟩ := TxS.get _ _ k x H.at2 hx.out
    obtain ⟨g, off, rfl⟩ := H.at1.ls_rd.some_ (by have := (List.getElem?_eq_some_iff.1 hv).1; omega)
    have cx : w1.cell? ⟨g, off + k * 2, none⟩ = some (.int .u64 x.1) := H.at1.ls_rd.cell hv 0 rfl
    have k0 : w1.cell? ⟨q, 0, none⟩ = some (.slice (some ⟨g, off, none⟩) (s.pt n).l.length c0) := H.cellOf 0 rfl
    have hcap := H.at1.ls_rd.caps.2
    rw [hk.out] at k0 hcap
    clear hl hv H
    go_wp2_with fail
    go_ret
    have := HF.out
    rw [upd_same] at this
    exact ⟨rfl, this⟩
set_option maxRecDepth 100000 in
theorem stage_ok (lp : Nat) (n t : Int) (rv : Value) (recs : List Rec) (s : Lg) (w w0 : World) (R : List HP) (H : Hs w0 w (Log lp s :: R)) (hr : ∀ w', Hs w0 w' R → RdL ERec w' rv recs) (hb : recs.length ≤ 1000000) (hs : (s.pt n).Ok) (h0 : 0 < t) (ht : (s.pt n).top < t) :
    Calls Try.prog 11 #[.pointer (some ⟨lp, 0, none⟩), .int .i64 n, .int .u64 t, rv] w fun e w' => e = .returned (.int .i64 0) ∧ Hs w0 w' (Log lp (s.put n t recs) :: R) := by
  have hof := of_any lp n s w w0 R H
  clear H
  have hsl := hs.2
  clear hs
  have hz : (t == 0) = false := by rw [beq_eq_false_iff_ne]; omega
  generalize hN : (s.pt n).l.length = N
  have hN' := Lib.hid hN
  rw [hN] at hsl
  cases N with
  | zero =>
    clear ht hN
    go_enter Try.func11, Try.ntmps11
    go_wp2_with fail
    refine hof.mono ?_
    rintro e w1 ⟨q, m, A, c, ps, Q, rfl, hf, H⟩
    obtain ⟨A0, c0, vs, hl, H⟩ := Part.open_ H
    rw [hN'.out] at H hl
    replace hl := Lib.hid hl
    have k0 : w1.cell? ⟨q, 0, none⟩ = some (.slice A0 0 c0) := H.cellOf 0 rfl
    have hcap := H.at1.ls_rd.caps.2
    go_wp2_with fail
    refine wp_region_left (S := fun w' : World => w'.cell? ⟨q, 0, none⟩ = some (.slice A0 (0) c0)) 13 mixed ?_
    have hS : (fun w' : World => w'.cell? ⟨q, 0, none⟩ = some (.slice A0 (0) c0)) w1.drew := by exact H.drew.cellOf 0 rfl
    refine Left.pure (i := 0) (v := ?va5_0) rfl (by kernel_rfl) (fun _ _ _ h => h) (Or.inr hS) (Or.inl ⟨by rfl, fun w _ => ?hya5_0⟩) ?resta5_0
    case hya5_0 => (go_simp; try with_reducible rfl)
    try simp only [Act.put, List.setIfInBounds_toArray, List.set_cons_zero, List.set_cons_succ]
    refine Left.pure (i := 1) (v := ?va5_1) rfl (by kernel_rfl) (fun _ _ _ h => h) (Or.inr hS) (Or.inl ⟨by rfl, fun w _ => ?hya5_1⟩) ?resta5_1
    case hya5_1 => (go_simp; try with_reducible rfl)
    try simp only [Act.put, List.setIfInBounds_toArray, List.set_cons_zero, List.set_cons_succ]
    refine Left.pure (i := 2) (v := ?va5_2) rfl (by kernel_rfl) (fun _ _ _ h => h) (Or.inr hS) (Or.inl ⟨by rfl, fun w _ => ?hya5_2⟩) ?resta5_2
    case hya5_2 => (go_simp; try with_reducible rfl)
    try simp only [Act.put, List.setIfInBounds_toArray, List.set_cons_zero, List.set_cons_succ]
    refine Left.pure (i := 3) (v := ?va5_3) rfl (by kernel_rfl) (fun _ _ _ h => h) (Or.inr hS) (Or.inl ⟨by rfl, fun w _ => ?hya5_3⟩) ?resta5_3
    case hya5_3 => (go_simp; try with_reducible rfl)
    try simp only [Act.put, List.setIfInBounds_toArray, List.set_cons_zero, List.set_cons_succ]
    refine Left.take (i := 4) (v := ?va5_4) rfl (by kernel_rfl) (fun _ _ _ h => h) hS (Or.inl ⟨by rfl, fun w hSw => ?hya5_4⟩) ?resta5_4
    case hya5_4 => ((try dsimp only at hSw); go_simp; try with_reducible rfl)
    try simp only [Act.put, List.setIfInBounds_toArray, List.set_cons_zero, List.set_cons_succ]
    refine Left.pure (i := 5) (v := ?va5_5) rfl (by kernel_rfl) (fun _ _ _ h => h) (Or.inr hS) (Or.inl ⟨by rfl, fun w _ => ?hya5_5⟩) ?resta5_5
    case hya5_5 => (go_simp; try with_reducible rfl)
    try simp only [Act.put, List.setIfInBounds_toArray, List.set_cons_zero, List.set_cons_succ]
    refine Left.pure (i := 6) (v := ?va5_6) rfl (by kernel_rfl) (fun _ _ _ h => h) (Or.inr hS) (Or.inl ⟨by rfl, fun w _ => ?hya5_6⟩) ?resta5_6
    case hya5_6 => (go_simp; try with_reducible rfl)
    try simp only [Act.put, List.setIfInBounds_toArray, List.set_cons_zero, List.set_cons_succ]
    refine Left.run (i := 7) rfl (by kernel_rfl) (fun K hK => ?_)
    go_simp
    go_at_call 29
    refine (clone29 rv recs _ w0 _ H.drew (hr _ H.drew.tail.tail.tail.tail.tail.tail.tail) (by omega)).mono ?_
    rintro e w2 ⟨A3, c3, rfl, H1⟩
    go_simp
    replace hS : (fun w' : World => w'.cell? ⟨q, 0, none⟩ = some (.slice A0 (0) c0)) w2 := by exact H1.at1.cellOf 0 rfl
    refine hK.out _ _ (Or.inr hS) ?_
    clear hK K
    try simp only [Act.put, List.setIfInBounds_toArray, List.set_cons_zero, List.set_cons_succ]
    refine Left.pure (i := 8) (v := ?va5_8) rfl (by kernel_rfl) (fun _ _ _ h => h) (Or.inr hS) (Or.inl ⟨by rfl, fun w _ => ?hya5_8⟩) ?resta5_8
    case hya5_8 => (go_simp; try with_reducible rfl)
    try simp only [Act.put, List.setIfInBounds_toArray, List.set_cons_zero, List.set_cons_succ]
    refine Left.run (i := 9) rfl (by kernel_rfl) (fun K hK => ?_)
    have H2 := H1.alloc (.cells #[.int .u64 t, .slice A3 recs.length c3] 68)
    go_simp
    replace hS : (fun w' : World => w'.cell? ⟨q, 0, none⟩ = some (.slice A0 (0) c0)) (w2.alloc (.cells #[.int .u64 t, .slice A3 recs.length c3] 68)) := by exact H2.at2.cellOf 0 rfl
    refine hK.out _ _ (Or.inr hS) ?_
    clear hK K
    try simp only [Act.put, List.setIfInBounds_toArray, List.set_cons_zero, List.set_cons_succ]
    refine Left.run (i := 10) rfl (by kernel_rfl) (fun K hK => ?_)
    refine step_append_box (E := ETx) (v := .slice A0 (0) c0) (by rfl) (.tmp 42) (.tmp 47) 64 (by rfl) 68 _ 2 32 Try.underlying64 info68 rfl (by decide) (by decide) rfl (by rfl) (by rfl) ((H1.alloc_ _).at2) (t, A3, recs.length, c3) (by exact RdL.boxAt _ (by simp)) (by rw [hl.out]; omega) ?_
    intro A4 c4 w3 H3
    rw [hl.out] at H3
    rw [hl.out]
    replace hS : (fun w' : World => w'.cell? ⟨q, 0, none⟩ = some (.slice A0 (0) c0)) w3 := by exact H3.at2.cellOf 0 rfl
    refine hK.out _ _ (Or.inr hS) ?_
    clear hK K
    try simp only [Act.put, List.setIfInBounds_toArray, List.set_cons_zero, List.set_cons_succ]
    refine Left.pure (i := 11) (v := ?va5_11) rfl (by kernel_rfl) (fun _ _ _ h => h) (Or.inr hS) (Or.inl ⟨by rfl, fun w _ => ?hya5_11⟩) ?resta5_11
    case hya5_11 => (go_simp; try with_reducible rfl)
    try simp only [Act.put, List.setIfInBounds_toArray, List.set_cons_zero, List.set_cons_succ]
    refine Left.pure (i := 12) (v := ?va5_12) rfl (by kernel_rfl) (fun _ _ _ h => h) (Or.inr hS) (Or.inl ⟨by rfl, fun w _ => ?hya5_12⟩) ?resta5_12
    case hya5_12 => (go_simp; try with_reducible rfl)
    try simp only [Act.put, List.setIfInBounds_toArray, List.set_cons_zero, List.set_cons_succ]
    refine Left.run (i := 13) rfl (by kernel_rfl) (fun K hK => ?_)
    have f0 := H3.at2.frozenOf 0
    have d0 := H3.at2.cellOf 0 rfl
    go_simp
    refine hK.out _ _ (Or.inl (by kernel_rfl)) ?_
    clear hK K
    try simp only [Act.put, List.setIfInBounds_toArray, List.set_cons_zero, List.set_cons_succ]
    refine Left.done (by kernel_rfl) ?_ _
    have H4 := (H3.at2.setCell (i := 0) (.slice A4 (0 + 1) c4))
    clear f0 d0 k0
    generalize World.setCell _ _ _ = w4 at H4 ⊢
    have d1 : w4.cell? ⟨lp, 0, none⟩ = some (.map (some m)) := H4.at4.cellOf 0 rfl
    go_wp2_with (at_mapUpdate; refine wpList_mp_put rfl (.tmp 54) (.tmp 55) (.tmp 56) 59 rfl 3 62 Try.underlying59 Try.underlying3 rfl H4.at5 _ _ rfl rfl ?_)
    intro w5 H5
    go_wp2_with fail
    go_ret
    have H6 := TxS.snoc _ _ t A3 recs.length c3 recs H5.at4.at4
    exact ⟨rfl, hf.put ⟨(s.pt n).l ++ [(t, recs)], (s.pt n).dn⟩ (Part.mk_ (s := ⟨(s.pt n).l ++ [(t, recs)], (s.pt n).dn⟩) H6.at3.at3).at2.at1⟩

  | succ k =>
    obtain ⟨x, hx⟩ : ∃ x, (s.pt n).l[k]? = some x := ⟨_, List.getElem?_eq_getElem (by omega)⟩
    rw [top_of hN hx] at ht
    have hlt : decide (t ≤ x.1) = false := by rw [decide_eq_false_iff_not]; omega
    replace hx := Lib.hid hx
    have hw : IntKind.i64.wrap (((k + 1 : Nat) : Int) - 1) = (k : Int) := by rw [IntWalk.i64_in _ (by omega)]; omega
    have hpos : (0 : Int) < ((k + 1 : Nat) : Int) := by omega
    have hk0 : (0 : Int) ≤ (k : Int) := by omega
    have hk1 : (k : Int) < ((k + 1 : Nat) : Int) := by omega
    clear hN
    go_enter Try.func11, Try.ntmps11
    go_wp2_with fail
    refine hof.mono ?_
    rintro e w1 ⟨q, m, A, c, ps, Q, rfl, hf, H⟩
    obtain ⟨A0, c0, vs, hl, H⟩ := Part.open_ H
    obtain ⟨A2, c2, hv, _⟩ := TxS.get _ _ k x H.at2 hx.out
    obtain ⟨g, off, rfl⟩ := H.at1.ls_rd.some_ (by have := (List.getElem?_eq_some_iff.1 hv).1; omega)
    have cx : w1.cell? ⟨g, off + k * 2, none⟩ = some (.int .u64 x.1) := H.at1.ls_rd.cell hv 0 rfl
    rw [hN'.out] at H hl
    replace hl := Lib.hid hl
    have k0 : w1.cell? ⟨q, 0, none⟩ = some (.slice (some ⟨g, off, none⟩) (k + 1) c0) := H.cellOf 0 rfl
    have hcap := H.at1.ls_rd.caps.2
    clear hv
    go_wp2_with fail
    refine wp_region_left (S := fun w' : World => w'.cell? ⟨q, 0, none⟩ = some (.slice (some ⟨g, off, none⟩) (k + 1) c0)) 13 mixed ?_
    have hS : (fun w' : World => w'.cell? ⟨q, 0, none⟩ = some (.slice (some ⟨g, off, none⟩) (k + 1) c0)) w1.drew := by exact H.drew.cellOf 0 rfl
    refine Left.pure (i := 0) (v := ?vb5_0) rfl (by kernel_rfl) (fun _ _ _ h => h) (Or.inr hS) (Or.inl ⟨by rfl, fun w _ => ?hyb5_0⟩) ?restb5_0
    case hyb5_0 => (go_simp; try with_reducible rfl)
    try simp only [Act.put, List.setIfInBounds_toArray, List.set_cons_zero, List.set_cons_succ]
    refine Left.pure (i := 1) (v := ?vb5_1) rfl (by kernel_rfl) (fun _ _ _ h => h) (Or.inr hS) (Or.inl ⟨by rfl, fun w _ => ?hyb5_1⟩) ?restb5_1
    case hyb5_1 => (go_simp; try with_reducible rfl)
    try simp only [Act.put, List.setIfInBounds_toArray, List.set_cons_zero, List.set_cons_succ]
    refine Left.pure (i := 2) (v := ?vb5_2) rfl (by kernel_rfl) (fun _ _ _ h => h) (Or.inr hS) (Or.inl ⟨by rfl, fun w _ => ?hyb5_2⟩) ?restb5_2
    case hyb5_2 => (go_simp; try with_reducible rfl)
    try simp only [Act.put, List.setIfInBounds_toArray, List.set_cons_zero, List.set_cons_succ]
    refine Left.pure (i := 3) (v := ?vb5_3) rfl (by kernel_rfl) (fun _ _ _ h => h) (Or.inr hS) (Or.inl ⟨by rfl, fun w _ => ?hyb5_3⟩) ?restb5_3
    case hyb5_3 => (go_simp; try with_reducible rfl)
    try simp only [Act.put, List.setIfInBounds_toArray, List.set_cons_zero, List.set_cons_succ]
    refine Left.take (i := 4) (v := ?vb5_4) rfl (by kernel_rfl) (fun _ _ _ h => h) hS (Or.inl ⟨by rfl, fun w hSw => ?hyb5_4⟩) ?restb5_4
    case hyb5_4 => ((try dsimp only at hSw); go_simp; try with_reducible rfl)
    try simp only [Act.put, List.setIfInBounds_toArray, List.set_cons_zero, List.set_cons_succ]
    refine Left.pure (i := 5) (v := ?vb5_5) rfl (by kernel_rfl) (fun _ _ _ h => h) (Or.inr hS) (Or.inl ⟨by rfl, fun w _ => ?hyb5_5⟩) ?restb5_5
    case hyb5_5 => (go_simp; try with_reducible rfl)
    try simp only [Act.put, List.setIfInBounds_toArray, List.set_cons_zero, List.set_cons_succ]
    refine Left.pure (i := 6) (v := ?vb5_6) rfl (by kernel_rfl) (fun _ _ _ h => h) (Or.inr hS) (Or.inl ⟨by rfl, fun w _ => ?hyb5_6⟩) ?restb5_6
    case hyb5_6 => (go_simp; try with_reducible rfl)
    try simp only [Act.put, List.setIfInBounds_toArray, List.set_cons_zero, List.set_cons_succ]
    refine Left.run (i := 7) rfl (by kernel_rfl) (fun K hK => ?_)
    go_simp
    go_at_call 29
    refine (clone29 rv recs _ w0 _ H.drew (hr _ H.drew.tail.tail.tail.tail.tail.tail.tail) (by omega)).mono ?_
    rintro e w2 ⟨A3, c3, rfl, H1⟩
    go_simp
    replace hS : (fun w' : World => w'.cell? ⟨q, 0, none⟩ = some (.slice (some ⟨g, off, none⟩) (k + 1) c0)) w2 := by exact H1.at1.cellOf 0 rfl
    refine hK.out _ _ (Or.inr hS) ?_
    clear hK K
    try simp only [Act.put, List.setIfInBounds_toArray, List.set_cons_zero, List.set_cons_succ]
    refine Left.pure (i := 8) (v := ?vb5_8) rfl (by kernel_rfl) (fun _ _ _ h => h) (Or.inr hS) (Or.inl ⟨by rfl, fun w _ => ?hyb5_8⟩) ?restb5_8
    case hyb5_8 => (go_simp; try with_reducible rfl)
    try simp only [Act.put, List.setIfInBounds_toArray, List.set_cons_zero, List.set_cons_succ]
    refine Left.run (i := 9) rfl (by kernel_rfl) (fun K hK => ?_)
    have H2 := H1.alloc (.cells #[.int .u64 t, .slice A3 recs.length c3] 68)
    go_simp
    replace hS : (fun w' : World => w'.cell? ⟨q, 0, none⟩ = some (.slice (some ⟨g, off, none⟩) (k + 1) c0)) (w2.alloc (.cells #[.int .u64 t, .slice A3 recs.length c3] 68)) := by exact H2.at2.cellOf 0 rfl
    refine hK.out _ _ (Or.inr hS) ?_
    clear hK K
    try simp only [Act.put, List.setIfInBounds_toArray, List.set_cons_zero, List.set_cons_succ]
    refine Left.run (i := 10) rfl (by kernel_rfl) (fun K hK => ?_)
    refine step_append_box (E := ETx) (v := .slice (some ⟨g, off, none⟩) (k + 1) c0) (by rfl) (.tmp 42) (.tmp 47) 64 (by rfl) 68 _ 2 32 Try.underlying64 info68 rfl (by decide) (by decide) rfl (by rfl) (by rfl) ((H1.alloc_ _).at2) (t, A3, recs.length, c3) (by exact RdL.boxAt _ (by simp)) (by rw [hl.out]; omega) ?_
    intro A4 c4 w3 H3
    rw [hl.out] at H3
    rw [hl.out]
    replace hS : (fun w' : World => w'.cell? ⟨q, 0, none⟩ = some (.slice (some ⟨g, off, none⟩) (k + 1) c0)) w3 := by exact H3.at2.cellOf 0 rfl
    refine hK.out _ _ (Or.inr hS) ?_
    clear hK K
    try simp only [Act.put, List.setIfInBounds_toArray, List.set_cons_zero, List.set_cons_succ]
    refine Left.pure (i := 11) (v := ?vb5_11) rfl (by kernel_rfl) (fun _ _ _ h => h) (Or.inr hS) (Or.inl ⟨by rfl, fun w _ => ?hyb5_11⟩) ?restb5_11
    case hyb5_11 => (go_simp; try with_reducible rfl)
    try simp only [Act.put, List.setIfInBounds_toArray, List.set_cons_zero, List.set_cons_succ]
    refine Left.pure (i := 12) (v := ?vb5_12) rfl (by kernel_rfl) (fun _ _ _ h => h) (Or.inr hS) (Or.inl ⟨by rfl, fun w _ => ?hyb5_12⟩) ?restb5_12
    case hyb5_12 => (go_simp; try with_reducible rfl)
    try simp only [Act.put, List.setIfInBounds_toArray, List.set_cons_zero, List.set_cons_succ]
    refine Left.run (i := 13) rfl (by kernel_rfl) (fun K hK => ?_)
    have f0 := H3.at2.frozenOf 0
    have d0 := H3.at2.cellOf 0 rfl
    go_simp
    refine hK.out _ _ (Or.inl (by kernel_rfl)) ?_
    clear hK K
    try simp only [Act.put, List.setIfInBounds_toArray, List.set_cons_zero, List.set_cons_succ]
    refine Left.done (by kernel_rfl) ?_ _
    have H4 := (H3.at2.setCell (i := 0) (.slice A4 (k + 1 + 1) c4))
    clear f0 d0 k0
    generalize World.setCell _ _ _ = w4 at H4 ⊢
    have d1 : w4.cell? ⟨lp, 0, none⟩ = some (.map (some m)) := H4.at4.cellOf 0 rfl
    go_wp2_with (at_mapUpdate; refine wpList_mp_put rfl (.tmp 54) (.tmp 55) (.tmp 56) 59 rfl 3 62 Try.underlying59 Try.underlying3 rfl H4.at5 _ _ rfl rfl ?_)
    intro w5 H5
    go_wp2_with fail
    go_ret
    have H6 := TxS.snoc _ _ t A3 recs.length c3 recs H5.at4.at4
    exact ⟨rfl, hf.put ⟨(s.pt n).l ++ [(t, recs)], (s.pt n).dn⟩ (Part.mk_ (s := ⟨(s.pt n).l ++ [(t, recs)], (s.pt n).dn⟩) H6.at3.at3).at2.at1⟩

end Go.Proofs.Ytjlonfldcmcchaa

import Derived.Test.YtbifajiigpalhaaPd
import Derived.Test.YtbifajiigpalhaaPa
import Derived.Test.YtbifajiigpalhaaProg
import Derived.Test.YtbifajiigpalhaaLs
import Derived.Outline
import Derived.StillTailTactics
import Derived.Deep.DeepCutAuto
import Derived.Deep.CutBlock
import Derived.Deep.LoopGhost
import Derived.Deep.QuietTactic
import Derived.BigQuiet
import Derived.Deep.RegionHeld3
import Derived.Deep.RegionLaw
set_option linter.unusedVariables false
set_option linter.unusedSimpArgs false
namespace Go.Proofs.Ytbifajiigpalhaa
open Go.RowKit
set_option maxRecDepth 100000 in
set_option maxHeartbeats 800000 in
theorem keyed19 (jv : Value) (zs : List Nd) (w w0 : World) (R : List HP) (H : Hs w0 w R) (hr : JobR w jv zs) (k : Int) : Calls Try.prog 19 #[.agg #[jv], .int .i64 k] w fun e w' => e = .returned (.bool (keyed zs k)) ∧ Hs w0 w' R := by
  obtain ⟨A, c, rfl⟩ := hr.form
  have K := H.alloc (.cells #[.slice A zs.length c] 24)
  have hj2 : JobR (w.alloc (.cells #[.slice A zs.length c] 24)) (.slice A zs.length c) zs := hr.step fun k hk => Below.heap_alloc w _ k hk
  have hcap := hr.1.caps.2
  obtain ⟨n, hn⟩ : ∃ n, zs.length = n := ⟨_, rfl⟩
  rw [hn] at K hj2 ⊢
  replace K := Lib.hid K
  replace hj2 := Lib.hid hj2
  have kd : Hid (keyed zs k = (isN n k && (match zs[k.toNat]? with | some z => keyK z.kind | none => false))) := by rw [← hn]; exact rfl
  replace hn := Lib.hid hn
  clear H hr hcap
  go_enter Try.func19, Try.ntmps19
  go_upto_region 1 with (fail)
  generalize World.alloc w _ = w1 at K hj2 ⊢
  generalize w.heap.size = bx at K ⊢
  have b0 : w1.cell? ⟨bx, 0, none⟩ = some (.slice A n c) := K.out.cellOf 0 rfl
  by_cases h0 : 0 ≤ k
  · by_cases h1 : k < (n : Int)
    · have hi : isN n k = true := by unfold isN; rw [decide_eq_true h0, decide_eq_true h1]; rfl
      obtain ⟨m, rfl⟩ := Int.eq_ofNat_of_zero_le h0
      have hm : m < zs.length := by have := hn.out; omega
      obtain ⟨z, hz⟩ : ∃ z, zs[m]? = some z := ⟨_, List.getElem?_eq_getElem hm⟩
      obtain ⟨g, off, rfl⟩ := hj2.out.1.some_ (by rw [List.length_map]; omega)
      obtain ⟨c0, _⟩ := hj2.out.cells hz
      have kd2 : Hid (keyed zs (m : Int) = keyK z.kind) := by show _ = _; rw [kd.out, hi, Int.toNat_natCast, hz]; rfl
      obtain ⟨x, hx⟩ : ∃ x, z.kind = x := ⟨_, rfl⟩
      rw [hx] at c0 kd2
      clear hj2 hi hz kd hx hm
      cases h6 : x == 6 with
      | true =>
        go_wp2_with fail
        go_ret
        exact ⟨by rw [kd2.out]; unfold keyK; rw [h6]; rfl, K.out.tail⟩
      | false =>
        go_wp2_with fail
        go_ret
        exact ⟨by rw [kd2.out]; unfold keyK; rw [h6, Bool.false_or]; rfl, K.out.tail⟩
    · have h2 : decide (k < (n : Int)) = false := by simpa using h1
      clear hj2 h1
      go_wp2_with fail
      go_ret
      exact ⟨by rw [kd.out]; unfold isN; rw [h2, Bool.and_false, Bool.false_and]; rfl, K.out.tail⟩
  · have h1 : decide (0 ≤ k) = false := by simpa using h0
    clear hj2 h0
    go_wp2_with fail
    go_ret
    exact ⟨by rw [kd.out]; unfold isN; rw [h1, Bool.false_and, Bool.false_and]; rfl, K.out.tail⟩
set_option maxRecDepth 100000 in
set_option maxHeartbeats 800000 in
theorem from15 (tv cv : Value) (T : List (Int × Int × Int)) (k : Int) (w w0 : World) (R : List HP) (H : Hs w0 w R) (hr : ∀ w', Hs w0 w' R → RdL EChn w' cv T) (hl : T.length ≤ 1000000) :
    Calls Try.prog 15 #[.agg #[tv, cv], .int .i64 k] w fun e w' => ∃ A c, e = .returned (.slice A (fromOf T k).length c) ∧ Hs w0 w' (Ls (Enc.num .i64) 3 (.slice A (fromOf T k).length c) (fromOf T k) :: R) := by
  obtain ⟨Aq, cq, hv⟩ := (hr w H).form
  subst hv
  have hcq := (hr w H).caps.2
  obtain ⟨n, hn⟩ : ∃ n, T.length = n := ⟨_, rfl⟩
  rw [hn] at hcq hr hl ⊢
  have H0 := (H.alloc (.cells #[tv, .slice Aq n cq] 30)).ls_nil (Enc.num .i64) 3
  replace hr := Lib.hid hr
  replace hn := Lib.hid hn
  replace H0 := Lib.hid H0
  clear H
  unfold fromOf chosen
  obtain ⟨F, hF⟩ : ∃ F : (Int × Int × Int) × Nat → List Int, F = fun x => if (fun x : Int × Int × Int => x.1 == k) x.1 then [(x.2 : Int)] else [] := ⟨_, rfl⟩
  obtain ⟨L, hL⟩ : ∃ L, T.zipIdx = L := ⟨_, rfl⟩
  have hfl : Hid (∀ j, j ≤ n → ((L.take j).flatMap F).length ≤ j) := fun j hj => by
    have := flatMap_len F (L.take j) 1 (fun x _ => by rw [hF]; dsimp only; split <;> simp)
    have h2 := List.length_take_le j L
    omega
  rw [← hF, hL]
  replace hF := Lib.hid hF
  replace hL := Lib.hid hL
  go_enter Try.func15, Try.ntmps15
  go_upto_region 1 with (fail)
  generalize World.alloc w _ = w1 at H0 ⊢
  generalize w.heap.size = b at H0 ⊢
  go_wp2_with fail
  go_loopg [5, 6] n (fun g ov iv wr => ∃ (j m : Nat) (A : Option Addr) (c : Nat), g + j = n ∧ iv = .int .i64 j ∧ ov = .slice A m c ∧ Hid (((L.take j).flatMap F).length = m) ∧ Hid (Hs w0 wr (Ls (Enc.num .i64) 3 (.slice A m c) ((L.take j).flatMap F) :: Blk b (.cells #[tv, .slice Aq n cq] 30) :: R)))
  case atStart => exact ⟨0, 0, none, 0, rfl, rfl, rfl, Lib.hid rfl, H0⟩
  case round =>
    clear H0
    obtain ⟨j, m, A, c, hg, rfl, rfl, hm, H⟩ := hrel
    have hjn : j ≤ n := by omega
    replace hg := Lib.hid hg
    have b1 : wr.cell? ⟨b, 1, none⟩ = some (.slice Aq n cq) := H.out.at1.cellOf 1 rfl
    rcases Nat.lt_or_ge j n with hj | hj
    · have hj0 : (0 : Int) ≤ (j : Int) := by omega
      have hj1 : (j : Int) < (n : Int) := by omega
      obtain ⟨g, off, rfl⟩ := (hr.out _ H.out.tail.tail).some_ (by have := hn.out; omega)
      obtain ⟨⟨x0, x1, x2⟩, hx⟩ : ∃ x, T[j]? = some x := ⟨_, List.getElem?_eq_getElem (by have := hn.out; omega)⟩
      have hst : Hid ((L.take (j + 1)).flatMap F = (L.take j).flatMap F ++ F ((x0, x1, x2), j)) := by
        show _ = _
        exact fm_step F L j _ (by rw [← hL.out]; exact zipIdx_get T j _ hx)
      have hFx : Hid (F ((x0, x1, x2), j) = if (x0 == k) = true then [(j : Int)] else []) := by show _ = _; rw [hF.out]
      have s0 : wr.cell? ⟨g, off + j * 3, none⟩ = some (.int .i64 x0) := (hr.out _ H.out.tail.tail).cell hx 0 rfl
      have hmj : m ≤ j := by have := hm.out; have := hfl.out j hjn; omega
      clear hx
      cases hb : (x0 == k) with
      | true =>
        have hs2 : Hid ((L.take (j + 1)).flatMap F = (L.take j).flatMap F ++ [(j : Int)]) := by show _ = _; rw [hst.out, hFx.out, hb]; rfl
        clear hst hFx
        go_upto_region 6 with (fail)
        clear s0 b1
        go_wp2_with (at_builtin; refine wpList_append1N (E := Enc.num .i64) m hm.out rfl (.tmp 22) (.tmp 24) 34 rfl 3 _ 1 8 Try.underlying34 infoI rfl (by decide) (by decide) rfl rfl rfl (by simp) H.out (j : Int) (by omega) ?_)
        intro A5 c5 w5 K4
        rw [← hs2.out] at K4
        replace K4 := Lib.hid K4
        clear H
        go_wp2_with fail
        go_roundg (n - (j + 1))
        case measure => have := hg.out; omega
        case rel => exact ⟨j + 1, m + 1, A5, c5, by have := hg.out; omega, by go_num, by first | rfl | simp, by show _ = _; rw [hs2.out, List.length_append, hm.out]; rfl, K4⟩
      | false =>
        have hs2 : Hid ((L.take (j + 1)).flatMap F = (L.take j).flatMap F) := by show _ = _; rw [hst.out, hFx.out, hb]; exact List.append_nil _
        clear hst hFx
        go_wp2_with fail
        go_roundg (n - (j + 1))
        case measure => have := hg.out; omega
        case rel => exact ⟨j + 1, m, A, c, by have := hg.out; omega, by go_num, rfl, by show _ = _; rw [hs2.out]; exact hm.out, by rw [hs2.out]; exact H⟩
    · have hj1 : decide ((j : Int) < (n : Int)) = false := by rw [decide_eq_false_iff_not]; omega
      have hj2 : decide (j < n) = false := by rw [decide_eq_false_iff_not]; omega
      have hall : L.take j = L := List.take_of_length_le (by rw [← hL.out, List.length_zipIdx, hn.out]; exact hj)
      rw [hall] at hm H
      clear hj hall
      go_wp2_with fail
      go_ret
      rw [hm.out]
      exact ⟨A, c, rfl, H.out.at1.tail⟩
set_option maxRecDepth 100000 in
set_option maxHeartbeats 800000 in
theorem to17 (tv cv : Value) (T : List (Int × Int × Int)) (k : Int) (w w0 : World) (R : List HP) (H : Hs w0 w R) (hr : ∀ w', Hs w0 w' R → RdL EChn w' cv T) (hl : T.length ≤ 1000000) :
    Calls Try.prog 17 #[.agg #[tv, cv], .int .i64 k] w fun e w' => ∃ A c, e = .returned (.slice A (toOf T k).length c) ∧ Hs w0 w' (Ls (Enc.num .i64) 3 (.slice A (toOf T k).length c) (toOf T k) :: R) := by
  obtain ⟨Aq, cq, hv⟩ := (hr w H).form
  subst hv
  have hcq := (hr w H).caps.2
  obtain ⟨n, hn⟩ : ∃ n, T.length = n := ⟨_, rfl⟩
  rw [hn] at hcq hr hl ⊢
  have H0 := (H.alloc (.cells #[tv, .slice Aq n cq] 30)).ls_nil (Enc.num .i64) 3
  replace hr := Lib.hid hr
  replace hn := Lib.hid hn
  replace H0 := Lib.hid H0
  clear H
  unfold toOf chosen
  obtain ⟨F, hF⟩ : ∃ F : (Int × Int × Int) × Nat → List Int, F = fun x => if (fun x : Int × Int × Int => x.2.1 == k) x.1 then [(x.2 : Int)] else [] := ⟨_, rfl⟩
  obtain ⟨L, hL⟩ : ∃ L, T.zipIdx = L := ⟨_, rfl⟩
  have hfl : Hid (∀ j, j ≤ n → ((L.take j).flatMap F).length ≤ j) := fun j hj => by
    have := flatMap_len F (L.take j) 1 (fun x _ => by rw [hF]; dsimp only; split <;> simp)
    have h2 := List.length_take_le j L
    omega
  rw [← hF, hL]
  replace hF := Lib.hid hF
  replace hL := Lib.hid hL
  go_enter Try.func17, Try.ntmps17
  go_upto_region 1 with (fail)
  generalize World.alloc w _ = w1 at H0 ⊢
  generalize w.heap.size = b at H0 ⊢
  go_wp2_with fail
  go_loopg [5, 6] n (fun g ov iv wr => ∃ (j m : Nat) (A : Option Addr) (c : Nat), g + j = n ∧ iv = .int .i64 j ∧ ov = .slice A m c ∧ Hid (((L.take j).flatMap F).length = m) ∧ Hid (Hs w0 wr (Ls (Enc.num .i64) 3 (.slice A m c) ((L.take j).flatMap F) :: Blk b (.cells #[tv, .slice Aq n cq] 30) :: R)))
  case atStart => exact ⟨0, 0, none, 0, rfl, rfl, rfl, Lib.hid rfl, H0⟩
  case round =>
    clear H0
    obtain ⟨j, m, A, c, hg, rfl, rfl, hm, H⟩ := hrel
    have hjn : j ≤ n := by omega
    replace hg := Lib.hid hg
    have b1 : wr.cell? ⟨b, 1, none⟩ = some (.slice Aq n cq) := H.out.at1.cellOf 1 rfl
    rcases Nat.lt_or_ge j n with hj | hj
    · have hj0 : (0 : Int) ≤ (j : Int) := by omega
      have hj1 : (j : Int) < (n : Int) := by omega
      obtain ⟨g, off, rfl⟩ := (hr.out _ H.out.tail.tail).some_ (by have := hn.out; omega)
      obtain ⟨⟨x0, x1, x2⟩, hx⟩ : ∃ x, T[j]? = some x := ⟨_, List.getElem?_eq_getElem (by have := hn.out; omega)⟩
      have hst : Hid ((L.take (j + 1)).flatMap F = (L.take j).flatMap F ++ F ((x0, x1, x2), j)) := by
        show _ = _
        exact fm_step F L j _ (by rw [← hL.out]; exact zipIdx_get T j _ hx)
      have hFx : Hid (F ((x0, x1, x2), j) = if (x1 == k) = true then [(j : Int)] else []) := by show _ = _; rw [hF.out]
      have s0 : wr.cell? ⟨g, off + j * 3 + 1, none⟩ = some (.int .i64 x1) := (hr.out _ H.out.tail.tail).cell hx 1 rfl
      have hmj : m ≤ j := by have := hm.out; have := hfl.out j hjn; omega
      clear hx
      cases hb : (x1 == k) with
      | true =>
        have hs2 : Hid ((L.take (j + 1)).flatMap F = (L.take j).flatMap F ++ [(j : Int)]) := by show _ = _; rw [hst.out, hFx.out, hb]; rfl
        clear hst hFx
        go_upto_region 6 with (fail)
        clear s0 b1
        go_wp2_with (at_builtin; refine wpList_append1N (E := Enc.num .i64) m hm.out rfl (.tmp 22) (.tmp 24) 34 rfl 3 _ 1 8 Try.underlying34 infoI rfl (by decide) (by decide) rfl rfl rfl (by simp) H.out (j : Int) (by omega) ?_)
        intro A5 c5 w5 K4
        rw [← hs2.out] at K4
        replace K4 := Lib.hid K4
        clear H
        go_wp2_with fail
        go_roundg (n - (j + 1))
        case measure => have := hg.out; omega
        case rel => exact ⟨j + 1, m + 1, A5, c5, by have := hg.out; omega, by go_num, by first | rfl | simp, by show _ = _; rw [hs2.out, List.length_append, hm.out]; rfl, K4⟩
      | false =>
        have hs2 : Hid ((L.take (j + 1)).flatMap F = (L.take j).flatMap F) := by show _ = _; rw [hst.out, hFx.out, hb]; exact List.append_nil _
        clear hst hFx
        go_wp2_with fail
        go_roundg (n - (j + 1))
        case measure => have := hg.out; omega
        case rel => exact ⟨j + 1, m, A, c, by have := hg.out; omega, by go_num, rfl, by show _ = _; rw [hs2.out]; exact hm.out, by rw [hs2.out]; exact H⟩
    · have hj1 : decide ((j : Int) < (n : Int)) = false := by rw [decide_eq_false_iff_not]; omega
      have hj2 : decide (j < n) = false := by rw [decide_eq_false_iff_not]; omega
      have hall : L.take j = L := List.take_of_length_le (by rw [← hL.out, List.length_zipIdx, hn.out]; exact hj)
      rw [hall] at hm H
      clear hj hall
      go_wp2_with fail
      go_ret
      rw [hm.out]
      exact ⟨A, c, rfl, H.out.at1.tail⟩
end Go.Proofs.Ytbifajiigpalhaa

import Derived.Test.YtbifajiigpalhaaPa
import Derived.Test.YtbifajiigpalhaaProg
import Derived.Test.YtbifajiigpalhaaLs
import Derived.Outline
import Derived.StillTailTactics
import Derived.Deep.DeepCutAuto
import Derived.Deep.CutBlock
import Derived.Deep.LoopGhost
import Derived.Deep.QuietTactic
import Derived.BigQuiet
import Derived.Deep.RegionHeld3
import Derived.Deep.RegionLaw
set_option linter.unusedVariables false
set_option linter.unusedSimpArgs false
namespace Go.Proofs.Ytbifajiigpalhaa
open Go.RowKit
set_option maxRecDepth 100000 in
theorem cl31 (b : Nat) (k x0 x1 : Int) (w w0 : World) (R : List HP) (H : Hs w0 w (Blk b (.cells #[.int .i64 k] 3) :: R)) :
    Calls Try.prog 31 #[.agg #[.int .i64 x0, .int .i64 x1], .pointer (some ⟨b, 0, none⟩)] w fun e w' => e = .returned (.bool (x0 == k)) ∧ Hs w0 w' (Blk b (.cells #[.int .i64 k] 3) :: R) := by
  have K := H.alloc (.cells #[.int .i64 x0, .int .i64 x1] 42)
  replace K := Lib.hid K
  clear H
  go_enter Try.func31, Try.ntmps31
  go_upto_region 1 with (fail)
  generalize World.alloc w _ = w1 at K ⊢
  generalize w.heap.size = bx at K ⊢
  have b0 : w1.cell? ⟨bx, 0, none⟩ = some (.int .i64 x0) := K.out.cellOf 0 rfl
  have b1 : w1.cell? ⟨b, 0, none⟩ = some (.int .i64 k) := K.out.at1.cellOf 0 rfl
  go_wp2_with fail
  go_ret
  exact ⟨rfl, K.out.tail⟩
set_option maxRecDepth 100000 in
set_option maxHeartbeats 800000 in
theorem chosen31 (b : Nat) (k : Int) (v : Value) (T : List (Int × Int)) (w w0 : World) (R : List HP) (H : Hs w0 w (Blk b (.cells #[.int .i64 k] 3) :: R)) (hr : ∀ w', Hs w0 w' R → RdL ETask w' v T) (hl : T.length ≤ 1000000) :
    Calls Try.prog 30 #[v, .func (.func 31) #[] #[.pointer (some ⟨b, 0, none⟩)]] w fun e w' => ∃ A c, e = .returned (.slice A (chosen (fun x => x.1 == k) T).length c) ∧ Hs w0 w' (Ls (Enc.num .i64) 3 (.slice A (chosen (fun x => x.1 == k) T).length c) (chosen (fun x => x.1 == k) T) :: Blk b (.cells #[.int .i64 k] 3) :: R) := by
  obtain ⟨Aq, cq, hv⟩ := (hr w H.tail).form
  subst hv
  have hcq := (hr w H.tail).caps.2
  obtain ⟨n, hn⟩ : ∃ n, T.length = n := ⟨_, rfl⟩
  rw [hn] at hcq hr hl ⊢
  replace hr := Lib.hid hr
  replace hn := Lib.hid hn
  have H0 := Lib.hid (H.ls_nil (Enc.num .i64) 3)
  clear H
  unfold chosen
  obtain ⟨F, hF⟩ : ∃ F : (Int × Int) × Nat → List Int, F = fun x => if (fun x : Int × Int => x.1 == k) x.1 then [(x.2 : Int)] else [] := ⟨_, rfl⟩
  obtain ⟨L, hL⟩ : ∃ L, T.zipIdx = L := ⟨_, rfl⟩
  have hfl : Hid (∀ j, j ≤ n → ((L.take j).flatMap F).length ≤ j) := fun j hj => by
    have := flatMap_len F (L.take j) 1 (fun x _ => by rw [hF]; dsimp only; split <;> simp)
    have h2 := List.length_take_le j L
    omega
  rw [← hF, hL]
  replace hF := Lib.hid hF
  replace hL := Lib.hid hL
  go_enter Try.func30, Try.ntmps30
  go_wp2_with fail
  go_loopg [10, 5] n (fun g iv ov wr => ∃ (j m : Nat) (A : Option Addr) (c : Nat), g + j = n ∧ iv = .int .i64 j ∧ ov = .slice A m c ∧ Hid (((L.take j).flatMap F).length = m) ∧ Hid (Hs w0 wr (Ls (Enc.num .i64) 3 (.slice A m c) ((L.take j).flatMap F) :: Blk b (.cells #[.int .i64 k] 3) :: R)))
  case atStart => exact ⟨0, 0, none, 0, rfl, rfl, rfl, Lib.hid rfl, H0⟩
  case round =>
    clear H0
    obtain ⟨j, m, A, c, hg, rfl, rfl, hm, H⟩ := hrel
    have hjn : j ≤ n := by omega
    replace hg := Lib.hid hg
    rcases Nat.lt_or_ge j n with hj | hj
    · have hj0 : (0 : Int) ≤ (j : Int) := by omega
      have hj1 : (j : Int) < (n : Int) := by omega
      obtain ⟨g, off, rfl⟩ := (hr.out _ H.out.tail.tail).some_ (by have := hn.out; omega)
      obtain ⟨⟨x0, x1⟩, hx⟩ : ∃ x, T[j]? = some x := ⟨_, List.getElem?_eq_getElem (by have := hn.out; omega)⟩
      have hst : Hid ((L.take (j + 1)).flatMap F = (L.take j).flatMap F ++ F ((x0, x1), j)) := by
        show _ = _
        exact fm_step F L j _ (by rw [← hL.out]; exact zipIdx_get T j _ hx)
      have hFx : Hid (F ((x0, x1), j) = if (x0 == k) = true then [(j : Int)] else []) := by show _ = _; rw [hF.out]
      have s0 : wr.cell? ⟨g, off + j * 2, none⟩ = some (.int .i64 x0) := (hr.out _ H.out.tail.tail).cell hx 0 rfl
      have s1 : wr.cell? ⟨g, off + j * 2 + 1, none⟩ = some (.int .i64 x1) := (hr.out _ H.out.tail.tail).cell hx 1 rfl
      have hmj : m ≤ j := by have := hm.out; have := hfl.out j hjn; omega
      clear hx
      go_upto_region 5 with (fail)
      have K := Lib.hid (H.out.alloc (.cells #[.int .i64 x0, .int .i64 x1] 42)).at2
      clear s0 s1 H
      generalize World.alloc wr _ = w1 at K ⊢
      generalize wr.heap.size = bx at K ⊢
      have y0 : w1.cell? ⟨bx, 0, none⟩ = some (.int .i64 x0) := K.out.at1.cellOf 0 rfl
      have y1 : w1.cell? ⟨bx, 1, none⟩ = some (.int .i64 x1) := K.out.at1.cellOf 1 rfl
      go_wp2_with fail
      refine (cl31 b k x0 x1 w1 w0 _ K.out).mono ?_
      rintro e w2 ⟨rfl, K2⟩
      replace K2 := Lib.hid K2.at1.tail.at1
      clear K y0 y1
      cases hb : (x0 == k) with
      | true =>
        have hs2 : Hid ((L.take (j + 1)).flatMap F = (L.take j).flatMap F ++ [(j : Int)]) := by show _ = _; rw [hst.out, hFx.out, hb]; rfl
        clear hst hFx hb
        go_wp2_with (at_builtin; refine wpList_append1N (E := Enc.num .i64) m hm.out rfl (.tmp 18) (.tmp 20) 34 rfl 3 _ 1 8 Try.underlying34 infoI rfl (by decide) (by decide) rfl rfl rfl (by simp) K2.out (j : Int) (by omega) ?_)
        intro A5 c5 w5 K4
        rw [← hs2.out] at K4
        replace K4 := Lib.hid K4
        clear K2
        go_wp2_with fail
        go_roundg (n - (j + 1))
        case measure => have := hg.out; omega
        case rel => exact ⟨j + 1, m + 1, A5, c5, by have := hg.out; omega, by go_num, by first | rfl | simp, by show _ = _; rw [hs2.out, List.length_append, hm.out]; rfl, K4⟩
      | false =>
        have hs2 : Hid ((L.take (j + 1)).flatMap F = (L.take j).flatMap F) := by show _ = _; rw [hst.out, hFx.out, hb]; exact List.append_nil _
        clear hst hFx hb
        go_wp2_with fail
        go_roundg (n - (j + 1))
        case measure => have := hg.out; omega
        case rel => exact ⟨j + 1, m, A, c, by have := hg.out; omega, by go_num, rfl, by show _ = _; rw [hs2.out]; exact hm.out, by rw [hs2.out]; exact K2⟩
    · have hj1 : decide ((j : Int) < (n : Int)) = false := by rw [decide_eq_false_iff_not]; omega
      have hj2 : decide (j < n) = false := by rw [decide_eq_false_iff_not]; omega
      have hall : L.take j = L := List.take_of_length_le (by rw [← hL.out, List.length_zipIdx, hn.out]; exact hj)
      rw [hall] at hm H
      clear hj hall
      go_wp2_with fail
      go_ret
      rw [hm.out]
      exact ⟨A, c, rfl, H.out⟩
set_option maxRecDepth 100000 in
theorem cl32 (b : Nat) (k x0 x1 : Int) (w w0 : World) (R : List HP) (H : Hs w0 w (Blk b (.cells #[.int .i64 k] 3) :: R)) :
    Calls Try.prog 32 #[.agg #[.int .i64 x0, .int .i64 x1], .pointer (some ⟨b, 0, none⟩)] w fun e w' => e = .returned (.bool (x0 == k)) ∧ Hs w0 w' (Blk b (.cells #[.int .i64 k] 3) :: R) := by
  have K := H.alloc (.cells #[.int .i64 x0, .int .i64 x1] 42)
  replace K := Lib.hid K
  clear H
  go_enter Try.func32, Try.ntmps32
  go_upto_region 1 with (fail)
  generalize World.alloc w _ = w1 at K ⊢
  generalize w.heap.size = bx at K ⊢
  have b0 : w1.cell? ⟨bx, 0, none⟩ = some (.int .i64 x0) := K.out.cellOf 0 rfl
  have b1 : w1.cell? ⟨b, 0, none⟩ = some (.int .i64 k) := K.out.at1.cellOf 0 rfl
  go_wp2_with fail
  go_ret
  exact ⟨rfl, K.out.tail⟩
set_option maxRecDepth 100000 in
set_option maxHeartbeats 800000 in
theorem chosen32 (b : Nat) (k : Int) (v : Value) (T : List (Int × Int)) (w w0 : World) (R : List HP) (H : Hs w0 w (Blk b (.cells #[.int .i64 k] 3) :: R)) (hr : ∀ w', Hs w0 w' R → RdL ETask w' v T) (hl : T.length ≤ 1000000) :
    Calls Try.prog 30 #[v, .func (.func 32) #[] #[.pointer (some ⟨b, 0, none⟩)]] w fun e w' => ∃ A c, e = .returned (.slice A (chosen (fun x => x.1 == k) T).length c) ∧ Hs w0 w' (Ls (Enc.num .i64) 3 (.slice A (chosen (fun x => x.1 == k) T).length c) (chosen (fun x => x.1 == k) T) :: Blk b (.cells #[.int .i64 k] 3) :: R) := by
  obtain ⟨Aq, cq, hv⟩ := (hr w H.tail).form
  subst hv
  have hcq := (hr w H.tail).caps.2
  obtain ⟨n, hn⟩ : ∃ n, T.length = n := ⟨_, rfl⟩
  rw [hn] at hcq hr hl ⊢
  replace hr := Lib.hid hr
  replace hn := Lib.hid hn
  have H0 := Lib.hid (H.ls_nil (Enc.num .i64) 3)
  clear H
  unfold chosen
  obtain ⟨F, hF⟩ : ∃ F : (Int × Int) × Nat → List Int, F = fun x => if (fun x : Int × Int => x.1 == k) x.1 then [(x.2 : Int)] else [] := ⟨_, rfl⟩
  obtain ⟨L, hL⟩ : ∃ L, T.zipIdx = L := ⟨_, rfl⟩
  have hfl : Hid (∀ j, j ≤ n → ((L.take j).flatMap F).length ≤ j) := fun j hj => by
    have := flatMap_len F (L.take j) 1 (fun x _ => by rw [hF]; dsimp only; split <;> simp)
    have h2 := List.length_take_le j L
    omega
  rw [← hF, hL]
  replace hF := Lib.hid hF
  replace hL := Lib.hid hL
  go_enter Try.func30, Try.ntmps30
  go_wp2_with fail
  go_loopg [10, 5] n (fun g iv ov wr => ∃ (j m : Nat) (A : Option Addr) (c : Nat), g + j = n ∧ iv = .int .i64 j ∧ ov = .slice A m c ∧ Hid (((L.take j).flatMap F).length = m) ∧ Hid (Hs w0 wr (Ls (Enc.num .i64) 3 (.slice A m c) ((L.take j).flatMap F) :: Blk b (.cells #[.int .i64 k] 3) :: R)))
  case atStart => exact ⟨0, 0, none, 0, rfl, rfl, rfl, Lib.hid rfl, H0⟩
  case round =>
    clear H0
    obtain ⟨j, m, A, c, hg, rfl, rfl, hm, H⟩ := hrel
    have hjn : j ≤ n := by omega
    replace hg := Lib.hid hg
    rcases Nat.lt_or_ge j n with hj | hj
    · have hj0 : (0 : Int) ≤ (j : Int) := by omega
      have hj1 : (j : Int) < (n : Int) := by omega
      obtain ⟨g, off, rfl⟩ := (hr.out _ H.out.tail.tail).some_ (by have := hn.out; omega)
      obtain ⟨⟨x0, x1⟩, hx⟩ : ∃ x, T[j]? = some x := ⟨_, List.getElem?_eq_getElem (by have := hn.out; omega)⟩
      have hst : Hid ((L.take (j + 1)).flatMap F = (L.take j).flatMap F ++ F ((x0, x1), j)) := by
        show _ = _
        exact fm_step F L j _ (by rw [← hL.out]; exact zipIdx_get T j _ hx)
      have hFx : Hid (F ((x0, x1), j) = if (x0 == k) = true then [(j : Int)] else []) := by show _ = _; rw [hF.out]
      have s0 : wr.cell? ⟨g, off + j * 2, none⟩ = some (.int .i64 x0) := (hr.out _ H.out.tail.tail).cell hx 0 rfl
      have s1 : wr.cell? ⟨g, off + j * 2 + 1, none⟩ = some (.int .i64 x1) := (hr.out _ H.out.tail.tail).cell hx 1 rfl
      have hmj : m ≤ j := by have := hm.out; have := hfl.out j hjn; omega
      clear hx
      go_upto_region 5 with (fail)
      have K := Lib.hid (H.out.alloc (.cells #[.int .i64 x0, .int .i64 x1] 42)).at2
      clear s0 s1 H
      generalize World.alloc wr _ = w1 at K ⊢
      generalize wr.heap.size = bx at K ⊢
      have y0 : w1.cell? ⟨bx, 0, none⟩ = some (.int .i64 x0) := K.out.at1.cellOf 0 rfl
      have y1 : w1.cell? ⟨bx, 1, none⟩ = some (.int .i64 x1) := K.out.at1.cellOf 1 rfl
      go_wp2_with fail
      refine (cl32 b k x0 x1 w1 w0 _ K.out).mono ?_
      rintro e w2 ⟨rfl, K2⟩
      replace K2 := Lib.hid K2.at1.tail.at1
      clear K y0 y1
      cases hb : (x0 == k) with
      | true =>
        have hs2 : Hid ((L.take (j + 1)).flatMap F = (L.take j).flatMap F ++ [(j : Int)]) := by show _ = _; rw [hst.out, hFx.out, hb]; rfl
        clear hst hFx hb
        go_wp2_with (at_builtin; refine wpList_append1N (E := Enc.num .i64) m hm.out rfl (.tmp 18) (.tmp 20) 34 rfl 3 _ 1 8 Try.underlying34 infoI rfl (by decide) (by decide) rfl rfl rfl (by simp) K2.out (j : Int) (by omega) ?_)
        intro A5 c5 w5 K4
        rw [← hs2.out] at K4
        replace K4 := Lib.hid K4
        clear K2
        go_wp2_with fail
        go_roundg (n - (j + 1))
        case measure => have := hg.out; omega
        case rel => exact ⟨j + 1, m + 1, A5, c5, by have := hg.out; omega, by go_num, by first | rfl | simp, by show _ = _; rw [hs2.out, List.length_append, hm.out]; rfl, K4⟩
      | false =>
        have hs2 : Hid ((L.take (j + 1)).flatMap F = (L.take j).flatMap F) := by show _ = _; rw [hst.out, hFx.out, hb]; exact List.append_nil _
        clear hst hFx hb
        go_wp2_with fail
        go_roundg (n - (j + 1))
        case measure => have := hg.out; omega
        case rel => exact ⟨j + 1, m, A, c, by have := hg.out; omega, by go_num, rfl, by show _ = _; rw [hs2.out]; exact hm.out, by rw [hs2.out]; exact K2⟩
    · have hj1 : decide ((j : Int) < (n : Int)) = false := by rw [decide_eq_false_iff_not]; omega
      have hj2 : decide (j < n) = false := by rw [decide_eq_false_iff_not]; omega
      have hall : L.take j = L := List.take_of_length_le (by rw [← hL.out, List.length_zipIdx, hn.out]; exact hj)
      rw [hall] at hm H
      clear hj hall
      go_wp2_with fail
      go_ret
      rw [hm.out]
      exact ⟨A, c, rfl, H.out⟩
set_option maxRecDepth 100000 in
theorem cl34 (b : Nat) (k x0 x1 x2 : Int) (w w0 : World) (R : List HP) (H : Hs w0 w (Blk b (.cells #[.int .i64 k] 3) :: R)) :
    Calls Try.prog 34 #[.agg #[.int .i64 x0, .int .i64 x1, .int .i64 x2], .pointer (some ⟨b, 0, none⟩)] w fun e w' => e = .returned (.bool (x0 == k)) ∧ Hs w0 w' (Blk b (.cells #[.int .i64 k] 3) :: R) := by
  have K := H.alloc (.cells #[.int .i64 x0, .int .i64 x1, .int .i64 x2] 40)
  replace K := Lib.hid K
  clear H
  go_enter Try.func34, Try.ntmps34
  go_upto_region 1 with (fail)
  generalize World.alloc w _ = w1 at K ⊢
  generalize w.heap.size = bx at K ⊢
  have b0 : w1.cell? ⟨bx, 0, none⟩ = some (.int .i64 x0) := K.out.cellOf 0 rfl
  have b1 : w1.cell? ⟨b, 0, none⟩ = some (.int .i64 k) := K.out.at1.cellOf 0 rfl
  go_wp2_with fail
  go_ret
  exact ⟨rfl, K.out.tail⟩
set_option maxRecDepth 100000 in
set_option maxHeartbeats 800000 in
theorem chosen34 (b : Nat) (k : Int) (v : Value) (T : List (Int × Int × Int)) (w w0 : World) (R : List HP) (H : Hs w0 w (Blk b (.cells #[.int .i64 k] 3) :: R)) (hr : ∀ w', Hs w0 w' R → RdL EChn w' v T) (hl : T.length ≤ 1000000) :
    Calls Try.prog 33 #[v, .func (.func 34) #[] #[.pointer (some ⟨b, 0, none⟩)]] w fun e w' => ∃ A c, e = .returned (.slice A (chosen (fun x => x.1 == k) T).length c) ∧ Hs w0 w' (Ls (Enc.num .i64) 3 (.slice A (chosen (fun x => x.1 == k) T).length c) (chosen (fun x => x.1 == k) T) :: Blk b (.cells #[.int .i64 k] 3) :: R) := by
  obtain ⟨Aq, cq, hv⟩ := (hr w H.tail).form
  subst hv
  have hcq := (hr w H.tail).caps.2
  obtain ⟨n, hn⟩ : ∃ n, T.length = n := ⟨_, rfl⟩
  rw [hn] at hcq hr hl ⊢
  replace hr := Lib.hid hr
  replace hn := Lib.hid hn
  have H0 := Lib.hid (H.ls_nil (Enc.num .i64) 3)
  clear H
  unfold chosen
  obtain ⟨F, hF⟩ : ∃ F : (Int × Int × Int) × Nat → List Int, F = fun x => if (fun x : Int × Int × Int => x.1 == k) x.1 then [(x.2 : Int)] else [] := ⟨_, rfl⟩
  obtain ⟨L, hL⟩ : ∃ L, T.zipIdx = L := ⟨_, rfl⟩
  have hfl : Hid (∀ j, j ≤ n → ((L.take j).flatMap F).length ≤ j) := fun j hj => by
    have := flatMap_len F (L.take j) 1 (fun x _ => by rw [hF]; dsimp only; split <;> simp)
    have h2 := List.length_take_le j L
    omega
  rw [← hF, hL]
  replace hF := Lib.hid hF
  replace hL := Lib.hid hL
  go_enter Try.func33, Try.ntmps33
  go_wp2_with fail
  go_loopg [10, 5] n (fun g iv ov wr => ∃ (j m : Nat) (A : Option Addr) (c : Nat), g + j = n ∧ iv = .int .i64 j ∧ ov = .slice A m c ∧ Hid (((L.take j).flatMap F).length = m) ∧ Hid (Hs w0 wr (Ls (Enc.num .i64) 3 (.slice A m c) ((L.take j).flatMap F) :: Blk b (.cells #[.int .i64 k] 3) :: R)))
  case atStart => exact ⟨0, 0, none, 0, rfl, rfl, rfl, Lib.hid rfl, H0⟩
  case round =>
    clear H0
    obtain ⟨j, m, A, c, hg, rfl, rfl, hm, H⟩ := hrel
    have hjn : j ≤ n := by omega
    replace hg := Lib.hid hg
    rcases Nat.lt_or_ge j n with hj | hj
    · have hj0 : (0 : Int) ≤ (j : Int) := by omega
      have hj1 : (j : Int) < (n : Int) := by omega
      obtain ⟨g, off, rfl⟩ := (hr.out _ H.out.tail.tail).some_ (by have := hn.out; omega)
      obtain ⟨⟨x0, x1, x2⟩, hx⟩ : ∃ x, T[j]? = some x := ⟨_, List.getElem?_eq_getElem (by have := hn.out; omega)⟩
      have hst : Hid ((L.take (j + 1)).flatMap F = (L.take j).flatMap F ++ F ((x0, x1, x2), j)) := by
        show _ = _
        exact fm_step F L j _ (by rw [← hL.out]; exact zipIdx_get T j _ hx)
      have hFx : Hid (F ((x0, x1, x2), j) = if (x0 == k) = true then [(j : Int)] else []) := by show _ = _; rw [hF.out]
      have s0 : wr.cell? ⟨g, off + j * 3, none⟩ = some (.int .i64 x0) := (hr.out _ H.out.tail.tail).cell hx 0 rfl
      have s1 : wr.cell? ⟨g, off + j * 3 + 1, none⟩ = some (.int .i64 x1) := (hr.out _ H.out.tail.tail).cell hx 1 rfl
      have s2 : wr.cell? ⟨g, off + j * 3 + 2, none⟩ = some (.int .i64 x2) := (hr.out _ H.out.tail.tail).cell hx 2 rfl
      have hmj : m ≤ j := by have := hm.out; have := hfl.out j hjn; omega
      clear hx
      go_upto_region 5 with (fail)
      have K := Lib.hid (H.out.alloc (.cells #[.int .i64 x0, .int .i64 x1, .int .i64 x2] 40)).at2
      clear s0 s1 s2 H
      generalize World.alloc wr _ = w1 at K ⊢
      generalize wr.heap.size = bx at K ⊢
      have y0 : w1.cell? ⟨bx, 0, none⟩ = some (.int .i64 x0) := K.out.at1.cellOf 0 rfl
      have y1 : w1.cell? ⟨bx, 1, none⟩ = some (.int .i64 x1) := K.out.at1.cellOf 1 rfl
      have y2 : w1.cell? ⟨bx, 2, none⟩ = some (.int .i64 x2) := K.out.at1.cellOf 2 rfl
      go_wp2_with fail
      refine (cl34 b k x0 x1 x2 w1 w0 _ K.out).mono ?_
      rintro e w2 ⟨rfl, K2⟩
      replace K2 := Lib.hid K2.at1.tail.at1
      clear K y0 y1 y2
      cases hb : (x0 == k) with
      | true =>
        have hs2 : Hid ((L.take (j + 1)).flatMap F = (L.take j).flatMap F ++ [(j : Int)]) := by show _ = _; rw [hst.out, hFx.out, hb]; rfl
        clear hst hFx hb
        go_wp2_with (at_builtin; refine wpList_append1N (E := Enc.num .i64) m hm.out rfl (.tmp 18) (.tmp 20) 34 rfl 3 _ 1 8 Try.underlying34 infoI rfl (by decide) (by decide) rfl rfl rfl (by simp) K2.out (j : Int) (by omega) ?_)
        intro A5 c5 w5 K4
        rw [← hs2.out] at K4
        replace K4 := Lib.hid K4
        clear K2
        go_wp2_with fail
        go_roundg (n - (j + 1))
        case measure => have := hg.out; omega
        case rel => exact ⟨j + 1, m + 1, A5, c5, by have := hg.out; omega, by go_num, by first | rfl | simp, by show _ = _; rw [hs2.out, List.length_append, hm.out]; rfl, K4⟩
      | false =>
        have hs2 : Hid ((L.take (j + 1)).flatMap F = (L.take j).flatMap F) := by show _ = _; rw [hst.out, hFx.out, hb]; exact List.append_nil _
        clear hst hFx hb
        go_wp2_with fail
        go_roundg (n - (j + 1))
        case measure => have := hg.out; omega
        case rel => exact ⟨j + 1, m, A, c, by have := hg.out; omega, by go_num, rfl, by show _ = _; rw [hs2.out]; exact hm.out, by rw [hs2.out]; exact K2⟩
    · have hj1 : decide ((j : Int) < (n : Int)) = false := by rw [decide_eq_false_iff_not]; omega
      have hj2 : decide (j < n) = false := by rw [decide_eq_false_iff_not]; omega
      have hall : L.take j = L := List.take_of_length_le (by rw [← hL.out, List.length_zipIdx, hn.out]; exact hj)
      rw [hall] at hm H
      clear hj hall
      go_wp2_with fail
      go_ret
      rw [hm.out]
      exact ⟨A, c, rfl, H.out⟩
set_option maxRecDepth 100000 in
theorem cl35 (b : Nat) (k x0 x1 x2 : Int) (w w0 : World) (R : List HP) (H : Hs w0 w (Blk b (.cells #[.int .i64 k] 3) :: R)) :
    Calls Try.prog 35 #[.agg #[.int .i64 x0, .int .i64 x1, .int .i64 x2], .pointer (some ⟨b, 0, none⟩)] w fun e w' => e = .returned (.bool (x1 == k)) ∧ Hs w0 w' (Blk b (.cells #[.int .i64 k] 3) :: R) := by
  have K := H.alloc (.cells #[.int .i64 x0, .int .i64 x1, .int .i64 x2] 40)
  replace K := Lib.hid K
  clear H
  go_enter Try.func35, Try.ntmps35
  go_upto_region 1 with (fail)
  generalize World.alloc w _ = w1 at K ⊢
  generalize w.heap.size = bx at K ⊢
  have b0 : w1.cell? ⟨bx, 1, none⟩ = some (.int .i64 x1) := K.out.cellOf 1 rfl
  have b1 : w1.cell? ⟨b, 0, none⟩ = some (.int .i64 k) := K.out.at1.cellOf 0 rfl
  go_wp2_with fail
  go_ret
  exact ⟨rfl, K.out.tail⟩
set_option maxRecDepth 100000 in
set_option maxHeartbeats 800000 in
theorem chosen35 (b : Nat) (k : Int) (v : Value) (T : List (Int × Int × Int)) (w w0 : World) (R : List HP) (H : Hs w0 w (Blk b (.cells #[.int .i64 k] 3) :: R)) (hr : ∀ w', Hs w0 w' R → RdL EChn w' v T) (hl : T.length ≤ 1000000) :
    Calls Try.prog 33 #[v, .func (.func 35) #[] #[.pointer (some ⟨b, 0, none⟩)]] w fun e w' => ∃ A c, e = .returned (.slice A (chosen (fun x => x.2.1 == k) T).length c) ∧ Hs w0 w' (Ls (Enc.num .i64) 3 (.slice A (chosen (fun x => x.2.1 == k) T).length c) (chosen (fun x => x.2.1 == k) T) :: Blk b (.cells #[.int .i64 k] 3) :: R) := by
  obtain ⟨Aq, cq, hv⟩ := (hr w H.tail).form
  subst hv
  have hcq := (hr w H.tail).caps.2
  obtain ⟨n, hn⟩ : ∃ n, T.length = n := ⟨_, rfl⟩
  rw [hn] at hcq hr hl ⊢
  replace hr := Lib.hid hr
  replace hn := Lib.hid hn
  have H0 := Lib.hid (H.ls_nil (Enc.num .i64) 3)
  clear H
  unfold chosen
  obtain ⟨F, hF⟩ : ∃ F : (Int × Int × Int) × Nat → List Int, F = fun x => if (fun x : Int × Int × Int => x.2.1 == k) x.1 then [(x.2 : Int)] else [] := ⟨_, rfl⟩
  obtain ⟨L, hL⟩ : ∃ L, T.zipIdx = L := ⟨_, rfl⟩
  have hfl : Hid (∀ j, j ≤ n → ((L.take j).flatMap F).length ≤ j) := fun j hj => by
    have := flatMap_len F (L.take j) 1 (fun x _ => by rw [hF]; dsimp only; split <;> simp)
    have h2 := List.length_take_le j L
    omega
  rw [← hF, hL]
  replace hF := Lib.hid hF
  replace hL := Lib.hid hL
  go_enter Try.func33, Try.ntmps33
  go_wp2_with fail
  go_loopg [10, 5] n (fun g iv ov wr => ∃ (j m : Nat) (A : Option Addr) (c : Nat), g + j = n ∧ iv = .int .i64 j ∧ ov = .slice A m c ∧ Hid (((L.take j).flatMap F).length = m) ∧ Hid (Hs w0 wr (Ls (Enc.num .i64) 3 (.slice A m c) ((L.take j).flatMap F) :: Blk b (.cells #[.int .i64 k] 3) :: R)))
  case atStart => exact ⟨0, 0, none, 0, rfl, rfl, rfl, Lib.hid rfl, H0⟩
  case round =>
    clear H0
    obtain ⟨j, m, A, c, hg, rfl, rfl, hm, H⟩ := hrel
    have hjn : j ≤ n := by omega
    replace hg := Lib.hid hg
    rcases Nat.lt_or_ge j n with hj | hj
    · have hj0 : (0 : Int) ≤ (j : Int) := by omega
      have hj1 : (j : Int) < (n : Int) := by omega
      obtain ⟨g, off, rfl⟩ := (hr.out _ H.out.tail.tail).some_ (by have := hn.out; omega)
      obtain ⟨⟨x0, x1, x2⟩, hx⟩ : ∃ x, T[j]? = some x := ⟨_, List.getElem?_eq_getElem (by have := hn.out; omega)⟩
      have hst : Hid ((L.take (j + 1)).flatMap F = (L.take j).flatMap F ++ F ((x0, x1, x2), j)) := by
        show _ = _
        exact fm_step F L j _ (by rw [← hL.out]; exact zipIdx_get T j _ hx)
      have hFx : Hid (F ((x0, x1, x2), j) = if (x1 == k) = true then [(j : Int)] else []) := by show _ = _; rw [hF.out]
      have s0 : wr.cell? ⟨g, off + j * 3, none⟩ = some (.int .i64 x0) := (hr.out _ H.out.tail.tail).cell hx 0 rfl
      have s1 : wr.cell? ⟨g, off + j * 3 + 1, none⟩ = some (.int .i64 x1) := (hr.out _ H.out.tail.tail).cell hx 1 rfl
      have s2 : wr.cell? ⟨g, off + j * 3 + 2, none⟩ = some (.int .i64 x2) := (hr.out _ H.out.tail.tail).cell hx 2 rfl
      have hmj : m ≤ j := by have := hm.out; have := hfl.out j hjn; omega
      clear hx
      go_upto_region 5 with (fail)
      have K := Lib.hid (H.out.alloc (.cells #[.int .i64 x0, .int .i64 x1, .int .i64 x2] 40)).at2
      clear s0 s1 s2 H
      generalize World.alloc wr _ = w1 at K ⊢
      generalize wr.heap.size = bx at K ⊢
      have y0 : w1.cell? ⟨bx, 0, none⟩ = some (.int .i64 x0) := K.out.at1.cellOf 0 rfl
      have y1 : w1.cell? ⟨bx, 1, none⟩ = some (.int .i64 x1) := K.out.at1.cellOf 1 rfl
      have y2 : w1.cell? ⟨bx, 2, none⟩ = some (.int .i64 x2) := K.out.at1.cellOf 2 rfl
      go_wp2_with fail
      refine (cl35 b k x0 x1 x2 w1 w0 _ K.out).mono ?_
      rintro e w2 ⟨rfl, K2⟩
      replace K2 := Lib.hid K2.at1.tail.at1
      clear K y0 y1 y2
      cases hb : (x1 == k) with
      | true =>
        have hs2 : Hid ((L.take (j + 1)).flatMap F = (L.take j).flatMap F ++ [(j : Int)]) := by show _ = _; rw [hst.out, hFx.out, hb]; rfl
        clear hst hFx hb
        go_wp2_with (at_builtin; refine wpList_append1N (E := Enc.num .i64) m hm.out rfl (.tmp 18) (.tmp 20) 34 rfl 3 _ 1 8 Try.underlying34 infoI rfl (by decide) (by decide) rfl rfl rfl (by simp) K2.out (j : Int) (by omega) ?_)
        intro A5 c5 w5 K4
        rw [← hs2.out] at K4
        replace K4 := Lib.hid K4
        clear K2
        go_wp2_with fail
        go_roundg (n - (j + 1))
        case measure => have := hg.out; omega
        case rel => exact ⟨j + 1, m + 1, A5, c5, by have := hg.out; omega, by go_num, by first | rfl | simp, by show _ = _; rw [hs2.out, List.length_append, hm.out]; rfl, K4⟩
      | false =>
        have hs2 : Hid ((L.take (j + 1)).flatMap F = (L.take j).flatMap F) := by show _ = _; rw [hst.out, hFx.out, hb]; exact List.append_nil _
        clear hst hFx hb
        go_wp2_with fail
        go_roundg (n - (j + 1))
        case measure => have := hg.out; omega
        case rel => exact ⟨j + 1, m, A, c, by have := hg.out; omega, by go_num, rfl, by show _ = _; rw [hs2.out]; exact hm.out, by rw [hs2.out]; exact K2⟩
    · have hj1 : decide ((j : Int) < (n : Int)) = false := by rw [decide_eq_false_iff_not]; omega
      have hj2 : decide (j < n) = false := by rw [decide_eq_false_iff_not]; omega
      have hall : L.take j = L := List.take_of_length_le (by rw [← hL.out, List.length_zipIdx, hn.out]; exact hj)
      rw [hall] at hm H
      clear hj hall
      go_wp2_with fail
      go_ret
      rw [hm.out]
      exact ⟨A, c, rfl, H.out⟩
end Go.Proofs.Ytbifajiigpalhaa

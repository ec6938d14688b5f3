import Derived.Test.YthjinahfhpgpmaaPa
import Derived.IntWalk
import Derived.Test.YthjinahfhpgpmaaProg
import Derived.Test.YthjinahfhpgpmaaLs
import Derived.Outline
import Derived.StillTailTactics
import Derived.Deep.DeepCutAuto
import Derived.Deep.CutBlock
import Derived.Deep.LoopGhost
import Derived.Deep.QuietTactic
import Derived.BigQuiet
import Derived.Deep.RegionHeld3
import Derived.Deep.RegionLaw
set_option linter.unusedVariables false
set_option linter.unusedSimpArgs false
namespace Go.Proofs.Ythjinahfhpgpmaa
open Go.RowKit
set_option maxRecDepth 100000 in
theorem each_none (p bt : Nat) (v : Vs) (s : Co) (lv : Value) (l : List Int) (kind n : Int) (w w0 : World) (R : List HP) (H : Hs w0 w (CoV p v s :: R)) (hl : ∀ w', Hs w0 w' (CoV p v s :: R) → RdL (Enc.num .i64) w' lv l) (hlen : l.length ≤ 1000)
    (hbt : ∀ w', Hs w0 w' (CoV p v s :: R) → True) :
    Calls Try.prog 24 #[.pointer (some ⟨p, 0, none⟩), lv, .int .i64 kind, .int .u64 n, .func (.func 25) #[] #[]] w fun e w' => ∃ A c, e = .returned (.slice A (s.tell kind n l nobody).length c) ∧ Hs w0 w' (Ls ECtl 32 (.slice A (s.tell kind n l nobody).length c) (s.tell kind n l nobody) :: CoV p v s :: R) := by
  obtain ⟨Al, cl, hlv⟩ := (hl w H).form
  subst hlv
  have hcl := (hl w H).caps.2
  obtain ⟨N, hN⟩ : ∃ N, l.length = N := ⟨_, rfl⟩
  rw [hN] at hcl hl hlen ⊢
  replace hl := Lib.hid hl
  replace hbt := Lib.hid hbt
  replace hN := Lib.hid hN
  have H0 := Lib.hid (H.ls_nil ECtl 32)
  clear H
  go_enter Try.func24, Try.ntmps24
  go_wp2_with fail
  go_loopg [11, 16] N (fun k ov iv wr => ∃ (j : Nat) (ot : List Ctl) (A : Option Addr) (c : Nat), k + j = N ∧ iv = .int .i64 j ∧ ov = .slice A ot.length c ∧ Hid (ot = s.tell kind n (l.take j) nobody) ∧ Hid (Hs w0 wr (Ls ECtl 32 (.slice A ot.length c) ot :: CoV p v s :: R)))
  case atStart => exact ⟨0, [], none, 0, rfl, rfl, rfl, rfl, H0⟩
  case round =>
    clear H0
    obtain ⟨j, ot, A, c, hk, rfl, rfl, hot, H⟩ := hrel
    replace hk := Lib.hid hk
    have hol : Hid (ot.length ≤ 1000000) := by
      show _ ≤ _
      rw [hot.out]
      unfold Co.tell
      rw [List.length_map]
      have := List.length_filter_le (fun t => !(nobody) t) (l.take j)
      rw [List.length_take] at this
      have := hN.out
      omega
    rcases Nat.lt_or_ge j N with hj | hj
    · have hj0 : (0 : Int) ≤ (j : Int) := by omega
      have hj1 : (j : Int) < (N : Int) := by omega
      have hw6 : IntKind.i64.wrap ((j : Int) + 1) = ((j + 1 : Nat) : Int) := by rw [IntWalk.i64_in _ (by omega)]; omega
      obtain ⟨x, hx⟩ : ∃ x, l[j]? = some x := ⟨_, List.getElem?_eq_getElem (by have := hN.out; omega)⟩
      obtain ⟨g, off, rfl⟩ := (hl.out _ H.out.tail).some_ (by have := hN.out; omega)
      have s0 : wr.cell? ⟨g, off + j, none⟩ = some (.int .i64 x) := by have := (hl.out _ H.out.tail).cell hx 0 rfl; simpa [Enc.num] using this
      have k4 : wr.cell? ⟨p, 4, none⟩ = some (.int .u64 s.epoch) := CoV.cell H.out.tail 4 rfl
      have htk : Hid (l.take (j + 1) = l.take j ++ [x]) := by show _ = _; rw [List.take_add_one, hx]; rfl
      have hbt' := hbt.out _ H.out.tail
      go_wp2_with fail
      refine (none25 x _).mono ?_
      cases hb : (nobody) x with
      | true =>
        have hot' : Hid (ot = s.tell kind n (l.take (j + 1)) nobody) := by
          show _ = _
          rw [hot.out, htk.out]
          unfold Co.tell
          rw [List.filter_append, List.map_append]
          simp [hb]
        rintro e w2 ⟨rfl, rfl⟩
        go_wp2_with fail
        go_roundg (N - (j + 1))
        case measure => have := hk.out; omega
        case rel => exact ⟨j + 1, ot, A, c, by have := hk.out; omega, by go_num, rfl, hot', H⟩
      | false =>
        have hot' : Hid (ot ++ [(kind, s.epoch, n, x)] = s.tell kind n (l.take (j + 1)) nobody) := by
          show _ = _
          rw [hot.out, htk.out]
          unfold Co.tell
          rw [List.filter_append, List.map_append]
          simp [hb]
        rintro e w2 ⟨rfl, rfl⟩
        go_wp2_with (at_builtin; refine wpList_append1L (E := ECtl) rfl (.tmp 24) (.tmp 33) 27 rfl 32 _ 4 32 Try.underlying27 infoC rfl (by decide) (by decide) rfl rfl rfl H.out (kind, s.epoch, n, x) (by have := hol.out; omega) ?_)
        intro A5 c5 w5 H5
        rw [show ot.length + 1 = (ot ++ [(kind, s.epoch, n, x)]).length from by simp] at H5
        replace H5 := Lib.hid H5
        clear H s0 k4 hbt'
        go_wp2_with fail
        go_roundg (N - (j + 1))
        case measure => have := hk.out; omega
        case rel => exact ⟨j + 1, ot ++ [(kind, s.epoch, n, x)], A5, c5, by have := hk.out; omega, by go_num, by first | rfl | simp, hot', H5⟩
    · have hj1 : decide ((j : Int) < (N : Int)) = false := by rw [decide_eq_false_iff_not]; omega
      have hj2 : decide (j < N) = false := by rw [decide_eq_false_iff_not]; omega
      have hfin : ot = s.tell kind n l nobody := by
        have h := hot.out
        rwa [List.take_of_length_le (by have := hN.out; omega)] at h
      subst hfin
      clear hj
      go_wp2_with fail
      go_ret
      exact ⟨A, c, rfl, H.out⟩
set_option maxRecDepth 100000 in
theorem each_ready (p bt : Nat) (v : Vs) (s : Co) (lv : Value) (l : List Int) (kind n : Int) (w w0 : World) (R : List HP) (H : Hs w0 w (CoV p v s :: R)) (hl : ∀ w', Hs w0 w' (CoV p v s :: R) → RdL (Enc.num .i64) w' lv l) (hlen : l.length ≤ 1000)
    (hbt : ∀ w', Hs w0 w' (CoV p v s :: R) → w'.cell? ⟨bt, 0, none⟩ = some (.pointer (some ⟨p, 0, none⟩))) :
    Calls Try.prog 24 #[.pointer (some ⟨p, 0, none⟩), lv, .int .i64 kind, .int .u64 n, .func (.func 27) #[] #[.pointer (some ⟨bt, 0, none⟩)]] w fun e w' => ∃ A c, e = .returned (.slice A (s.tell kind n l s.ready).length c) ∧ Hs w0 w' (Ls ECtl 32 (.slice A (s.tell kind n l s.ready).length c) (s.tell kind n l s.ready) :: CoV p v s :: R) := by
  obtain ⟨Al, cl, hlv⟩ := (hl w H).form
  subst hlv
  have hcl := (hl w H).caps.2
  obtain ⟨N, hN⟩ : ∃ N, l.length = N := ⟨_, rfl⟩
  rw [hN] at hcl hl hlen ⊢
  replace hl := Lib.hid hl
  replace hbt := Lib.hid hbt
  replace hN := Lib.hid hN
  have H0 := Lib.hid (H.ls_nil ECtl 32)
  clear H
  go_enter Try.func24, Try.ntmps24
  go_wp2_with fail
  go_loopg [11, 16] N (fun k ov iv wr => ∃ (j : Nat) (ot : List Ctl) (A : Option Addr) (c : Nat), k + j = N ∧ iv = .int .i64 j ∧ ov = .slice A ot.length c ∧ Hid (ot = s.tell kind n (l.take j) s.ready) ∧ Hid (Hs w0 wr (Ls ECtl 32 (.slice A ot.length c) ot :: CoV p v s :: R)))
  case atStart => exact ⟨0, [], none, 0, rfl, rfl, rfl, rfl, H0⟩
  case round =>
    clear H0
    obtain ⟨j, ot, A, c, hk, rfl, rfl, hot, H⟩ := hrel
    replace hk := Lib.hid hk
    have hol : Hid (ot.length ≤ 1000000) := by
      show _ ≤ _
      rw [hot.out]
      unfold Co.tell
      rw [List.length_map]
      have := List.length_filter_le (fun t => !(s.ready) t) (l.take j)
      rw [List.length_take] at this
      have := hN.out
      omega
    rcases Nat.lt_or_ge j N with hj | hj
    · have hj0 : (0 : Int) ≤ (j : Int) := by omega
      have hj1 : (j : Int) < (N : Int) := by omega
      have hw6 : IntKind.i64.wrap ((j : Int) + 1) = ((j + 1 : Nat) : Int) := by rw [IntWalk.i64_in _ (by omega)]; omega
      obtain ⟨x, hx⟩ : ∃ x, l[j]? = some x := ⟨_, List.getElem?_eq_getElem (by have := hN.out; omega)⟩
      obtain ⟨g, off, rfl⟩ := (hl.out _ H.out.tail).some_ (by have := hN.out; omega)
      have s0 : wr.cell? ⟨g, off + j, none⟩ = some (.int .i64 x) := by have := (hl.out _ H.out.tail).cell hx 0 rfl; simpa [Enc.num] using this
      have k4 : wr.cell? ⟨p, 4, none⟩ = some (.int .u64 s.epoch) := CoV.cell H.out.tail 4 rfl
      have htk : Hid (l.take (j + 1) = l.take j ++ [x]) := by show _ = _; rw [List.take_add_one, hx]; rfl
      have hbt' := hbt.out _ H.out.tail
      go_wp2_with fail
      refine (ready27 p bt v s _ w0 R x H.out.tail hbt').mono ?_
      cases hb : (s.ready) x with
      | true =>
        have hot' : Hid (ot = s.tell kind n (l.take (j + 1)) s.ready) := by
          show _ = _
          rw [hot.out, htk.out]
          unfold Co.tell
          rw [List.filter_append, List.map_append]
          simp [hb]
        rintro e w2 ⟨rfl, rfl⟩
        go_wp2_with fail
        go_roundg (N - (j + 1))
        case measure => have := hk.out; omega
        case rel => exact ⟨j + 1, ot, A, c, by have := hk.out; omega, by go_num, rfl, hot', H⟩
      | false =>
        have hot' : Hid (ot ++ [(kind, s.epoch, n, x)] = s.tell kind n (l.take (j + 1)) s.ready) := by
          show _ = _
          rw [hot.out, htk.out]
          unfold Co.tell
          rw [List.filter_append, List.map_append]
          simp [hb]
        rintro e w2 ⟨rfl, rfl⟩
        go_wp2_with (at_builtin; refine wpList_append1L (E := ECtl) rfl (.tmp 24) (.tmp 33) 27 rfl 32 _ 4 32 Try.underlying27 infoC rfl (by decide) (by decide) rfl rfl rfl H.out (kind, s.epoch, n, x) (by have := hol.out; omega) ?_)
        intro A5 c5 w5 H5
        rw [show ot.length + 1 = (ot ++ [(kind, s.epoch, n, x)]).length from by simp] at H5
        replace H5 := Lib.hid H5
        clear H s0 k4 hbt'
        go_wp2_with fail
        go_roundg (N - (j + 1))
        case measure => have := hk.out; omega
        case rel => exact ⟨j + 1, ot ++ [(kind, s.epoch, n, x)], A5, c5, by have := hk.out; omega, by go_num, by first | rfl | simp, hot', H5⟩
    · have hj1 : decide ((j : Int) < (N : Int)) = false := by rw [decide_eq_false_iff_not]; omega
      have hj2 : decide (j < N) = false := by rw [decide_eq_false_iff_not]; omega
      have hfin : ot = s.tell kind n l s.ready := by
        have h := hot.out
        rwa [List.take_of_length_le (by have := hN.out; omega)] at h
      subst hfin
      clear hj
      go_wp2_with fail
      go_ret
      exact ⟨A, c, rfl, H.out⟩
set_option maxRecDepth 100000 in
theorem each_acked (p bt : Nat) (v : Vs) (s : Co) (lv : Value) (l : List Int) (kind n : Int) (w w0 : World) (R : List HP) (H : Hs w0 w (CoV p v s :: R)) (hl : ∀ w', Hs w0 w' (CoV p v s :: R) → RdL (Enc.num .i64) w' lv l) (hlen : l.length ≤ 1000)
    (hbt : ∀ w', Hs w0 w' (CoV p v s :: R) → w'.cell? ⟨bt, 0, none⟩ = some (.pointer (some ⟨p, 0, none⟩))) :
    Calls Try.prog 24 #[.pointer (some ⟨p, 0, none⟩), lv, .int .i64 kind, .int .u64 n, .func (.func 29) #[] #[.pointer (some ⟨bt, 0, none⟩)]] w fun e w' => ∃ A c, e = .returned (.slice A (s.tell kind n l s.acked).length c) ∧ Hs w0 w' (Ls ECtl 32 (.slice A (s.tell kind n l s.acked).length c) (s.tell kind n l s.acked) :: CoV p v s :: R) := by
  obtain ⟨Al, cl, hlv⟩ := (hl w H).form
  subst hlv
  have hcl := (hl w H).caps.2
  obtain ⟨N, hN⟩ : ∃ N, l.length = N := ⟨_, rfl⟩
  rw [hN] at hcl hl hlen ⊢
  replace hl := Lib.hid hl
  replace hbt := Lib.hid hbt
  replace hN := Lib.hid hN
  have H0 := Lib.hid (H.ls_nil ECtl 32)
  clear H
  go_enter Try.func24, Try.ntmps24
  go_wp2_with fail
  go_loopg [11, 16] N (fun k ov iv wr => ∃ (j : Nat) (ot : List Ctl) (A : Option Addr) (c : Nat), k + j = N ∧ iv = .int .i64 j ∧ ov = .slice A ot.length c ∧ Hid (ot = s.tell kind n (l.take j) s.acked) ∧ Hid (Hs w0 wr (Ls ECtl 32 (.slice A ot.length c) ot :: CoV p v s :: R)))
  case atStart => exact ⟨0, [], none, 0, rfl, rfl, rfl, rfl, H0⟩
  case round =>
    clear H0
    obtain ⟨j, ot, A, c, hk, rfl, rfl, hot, H⟩ := hrel
    replace hk := Lib.hid hk
    have hol : Hid (ot.length ≤ 1000000) := by
      show _ ≤ _
      rw [hot.out]
      unfold Co.tell
      rw [List.length_map]
      have := List.length_filter_le (fun t => !(s.acked) t) (l.take j)
      rw [List.length_take] at this
      have := hN.out
      omega
    rcases Nat.lt_or_ge j N with hj | hj
    · have hj0 : (0 : Int) ≤ (j : Int) := by omega
      have hj1 : (j : Int) < (N : Int) := by omega
      have hw6 : IntKind.i64.wrap ((j : Int) + 1) = ((j + 1 : Nat) : Int) := by rw [IntWalk.i64_in _ (by omega)]; omega
      obtain ⟨x, hx⟩ : ∃ x, l[j]? = some x := ⟨_, List.getElem?_eq_getElem (by have := hN.out; omega)⟩
      obtain ⟨g, off, rfl⟩ := (hl.out _ H.out.tail).some_ (by have := hN.out; omega)
      have s0 : wr.cell? ⟨g, off + j, none⟩ = some (.int .i64 x) := by have := (hl.out _ H.out.tail).cell hx 0 rfl; simpa [Enc.num] using this
      have k4 : wr.cell? ⟨p, 4, none⟩ = some (.int .u64 s.epoch) := CoV.cell H.out.tail 4 rfl
      have htk : Hid (l.take (j + 1) = l.take j ++ [x]) := by show _ = _; rw [List.take_add_one, hx]; rfl
      have hbt' := hbt.out _ H.out.tail
      go_wp2_with fail
      refine (acked29 p bt v s _ w0 R x H.out.tail hbt').mono ?_
      cases hb : (s.acked) x with
      | true =>
        have hot' : Hid (ot = s.tell kind n (l.take (j + 1)) s.acked) := by
          show _ = _
          rw [hot.out, htk.out]
          unfold Co.tell
          rw [List.filter_append, List.map_append]
          simp [hb]
        rintro e w2 ⟨rfl, rfl⟩
        go_wp2_with fail
        go_roundg (N - (j + 1))
        case measure => have := hk.out; omega
        case rel => exact ⟨j + 1, ot, A, c, by have := hk.out; omega, by go_num, rfl, hot', H⟩
      | false =>
        have hot' : Hid (ot ++ [(kind, s.epoch, n, x)] = s.tell kind n (l.take (j + 1)) s.acked) := by
          show _ = _
          rw [hot.out, htk.out]
          unfold Co.tell
          rw [List.filter_append, List.map_append]
          simp [hb]
        rintro e w2 ⟨rfl, rfl⟩
        go_wp2_with (at_builtin; refine wpList_append1L (E := ECtl) rfl (.tmp 24) (.tmp 33) 27 rfl 32 _ 4 32 Try.underlying27 infoC rfl (by decide) (by decide) rfl rfl rfl H.out (kind, s.epoch, n, x) (by have := hol.out; omega) ?_)
        intro A5 c5 w5 H5
        rw [show ot.length + 1 = (ot ++ [(kind, s.epoch, n, x)]).length from by simp] at H5
        replace H5 := Lib.hid H5
        clear H s0 k4 hbt'
        go_wp2_with fail
        go_roundg (N - (j + 1))
        case measure => have := hk.out; omega
        case rel => exact ⟨j + 1, ot ++ [(kind, s.epoch, n, x)], A5, c5, by have := hk.out; omega, by go_num, by first | rfl | simp, hot', H5⟩
    · have hj1 : decide ((j : Int) < (N : Int)) = false := by rw [decide_eq_false_iff_not]; omega
      have hj2 : decide (j < N) = false := by rw [decide_eq_false_iff_not]; omega
      have hfin : ot = s.tell kind n l s.acked := by
        have h := hot.out
        rwa [List.take_of_length_le (by have := hN.out; omega)] at h
      subst hfin
      clear hj
      go_wp2_with fail
      go_ret
      exact ⟨A, c, rfl, H.out⟩
set_option maxRecDepth 100000 in
theorem each_committed (p bt : Nat) (v : Vs) (s : Co) (lv : Value) (l : List Int) (kind n : Int) (w w0 : World) (R : List HP) (H : Hs w0 w (CoV p v s :: R)) (hl : ∀ w', Hs w0 w' (CoV p v s :: R) → RdL (Enc.num .i64) w' lv l) (hlen : l.length ≤ 1000)
    (hbt : ∀ w', Hs w0 w' (CoV p v s :: R) → True) :
    Calls Try.prog 24 #[.pointer (some ⟨p, 0, none⟩), lv, .int .i64 kind, .int .u64 n, .func (.func 28) #[.pointer (some ⟨p, 0, none⟩)] #[]] w fun e w' => ∃ A c, e = .returned (.slice A (s.tell kind n l s.committed).length c) ∧ Hs w0 w' (Ls ECtl 32 (.slice A (s.tell kind n l s.committed).length c) (s.tell kind n l s.committed) :: CoV p v s :: R) := by
  obtain ⟨Al, cl, hlv⟩ := (hl w H).form
  subst hlv
  have hcl := (hl w H).caps.2
  obtain ⟨N, hN⟩ : ∃ N, l.length = N := ⟨_, rfl⟩
  rw [hN] at hcl hl hlen ⊢
  replace hl := Lib.hid hl
  replace hbt := Lib.hid hbt
  replace hN := Lib.hid hN
  have H0 := Lib.hid (H.ls_nil ECtl 32)
  clear H
  go_enter Try.func24, Try.ntmps24
  go_wp2_with fail
  go_loopg [11, 16] N (fun k ov iv wr => ∃ (j : Nat) (ot : List Ctl) (A : Option Addr) (c : Nat), k + j = N ∧ iv = .int .i64 j ∧ ov = .slice A ot.length c ∧ Hid (ot = s.tell kind n (l.take j) s.committed) ∧ Hid (Hs w0 wr (Ls ECtl 32 (.slice A ot.length c) ot :: CoV p v s :: R)))
  case atStart => exact ⟨0, [], none, 0, rfl, rfl, rfl, rfl, H0⟩
  case round =>
    clear H0
    obtain ⟨j, ot, A, c, hk, rfl, rfl, hot, H⟩ := hrel
    replace hk := Lib.hid hk
    have hol : Hid (ot.length ≤ 1000000) := by
      show _ ≤ _
      rw [hot.out]
      unfold Co.tell
      rw [List.length_map]
      have := List.length_filter_le (fun t => !(s.committed) t) (l.take j)
      rw [List.length_take] at this
      have := hN.out
      omega
    rcases Nat.lt_or_ge j N with hj | hj
    · have hj0 : (0 : Int) ≤ (j : Int) := by omega
      have hj1 : (j : Int) < (N : Int) := by omega
      have hw6 : IntKind.i64.wrap ((j : Int) + 1) = ((j + 1 : Nat) : Int) := by rw [IntWalk.i64_in _ (by omega)]; omega
      obtain ⟨x, hx⟩ : ∃ x, l[j]? = some x := ⟨_, List.getElem?_eq_getElem (by have := hN.out; omega)⟩
      obtain ⟨g, off, rfl⟩ := (hl.out _ H.out.tail).some_ (by have := hN.out; omega)
      have s0 : wr.cell? ⟨g, off + j, none⟩ = some (.int .i64 x) := by have := (hl.out _ H.out.tail).cell hx 0 rfl; simpa [Enc.num] using this
      have k4 : wr.cell? ⟨p, 4, none⟩ = some (.int .u64 s.epoch) := CoV.cell H.out.tail 4 rfl
      have htk : Hid (l.take (j + 1) = l.take j ++ [x]) := by show _ = _; rw [List.take_add_one, hx]; rfl
      have hbt' := hbt.out _ H.out.tail
      go_wp2_with fail
      refine (committed28 p v s _ w0 R x H.out.tail).mono ?_
      cases hb : (s.committed) x with
      | true =>
        have hot' : Hid (ot = s.tell kind n (l.take (j + 1)) s.committed) := by
          show _ = _
          rw [hot.out, htk.out]
          unfold Co.tell
          rw [List.filter_append, List.map_append]
          simp [hb]
        rintro e w2 ⟨rfl, nq, rfl⟩
        replace H : Hid _ := H.out.drewN nq
        go_wp2_with fail
        go_roundg (N - (j + 1))
        case measure => have := hk.out; omega
        case rel => exact ⟨j + 1, ot, A, c, by have := hk.out; omega, by go_num, rfl, hot', H⟩
      | false =>
        have hot' : Hid (ot ++ [(kind, s.epoch, n, x)] = s.tell kind n (l.take (j + 1)) s.committed) := by
          show _ = _
          rw [hot.out, htk.out]
          unfold Co.tell
          rw [List.filter_append, List.map_append]
          simp [hb]
        rintro e w2 ⟨rfl, nq, rfl⟩
        replace H : Hid _ := H.out.drewN nq
        go_wp2_with (at_builtin; refine wpList_append1L (E := ECtl) rfl (.tmp 24) (.tmp 33) 27 rfl 32 _ 4 32 Try.underlying27 infoC rfl (by decide) (by decide) rfl rfl rfl H.out (kind, s.epoch, n, x) (by have := hol.out; omega) ?_)
        intro A5 c5 w5 H5
        rw [show ot.length + 1 = (ot ++ [(kind, s.epoch, n, x)]).length from by simp] at H5
        replace H5 := Lib.hid H5
        clear H s0 k4 hbt'
        go_wp2_with fail
        go_roundg (N - (j + 1))
        case measure => have := hk.out; omega
        case rel => exact ⟨j + 1, ot ++ [(kind, s.epoch, n, x)], A5, c5, by have := hk.out; omega, by go_num, by first | rfl | simp, hot', H5⟩
    · have hj1 : decide ((j : Int) < (N : Int)) = false := by rw [decide_eq_false_iff_not]; omega
      have hj2 : decide (j < N) = false := by rw [decide_eq_false_iff_not]; omega
      have hfin : ot = s.tell kind n l s.committed := by
        have h := hot.out
        rwa [List.take_of_length_le (by have := hN.out; omega)] at h
      subst hfin
      clear hj
      go_wp2_with fail
      go_ret
      exact ⟨A, c, rfl, H.out⟩
set_option maxRecDepth 100000 in
theorem idxf_all (p bt : Nat) (v : Vs) (s : Co) (lv : Value) (l : List Int) (f : Int → Bool) (w w0 : World) (R : List HP) (H : Hs w0 w R) (hl : ∀ w', Hs w0 w' R → RdL (Enc.num .i64) w' lv l) (hlen : l.length ≤ 1000)
    (hc : ∀ x w', Hs w0 w' R → Calls Try.prog 33 #[.int .i64 x, .pointer (some ⟨bt, 0, none⟩)] w' fun e w'' => e = .returned (.bool (!f x)) ∧ ∃ n, w'' = w'.drewN n) :
    Calls Try.prog 34 #[lv, .func (.func 33) #[] #[.pointer (some ⟨bt, 0, none⟩)]] w fun e w' => ∃ r : Int, e = .returned (.int .i64 r) ∧ decide (0 ≤ r) = !l.all f ∧ ∃ n, w' = w.drewN n := by
  obtain ⟨Al, cl, hlv⟩ := (hl w H).form
  subst hlv
  have hcl := (hl w H).caps.2
  obtain ⟨N, hN⟩ : ∃ N, l.length = N := ⟨_, rfl⟩
  rw [hN] at hcl hl hlen ⊢
  replace hl := Lib.hid hl
  replace hc := Lib.hid hc
  replace hN := Lib.hid hN
  have H0 := Lib.hid H
  clear H
  go_enter Try.func34, Try.ntmps34
  go_wp2_with fail
  go_loopg [8] N (fun k iv wr => ∃ (j q : Nat), k + j = N ∧ iv = .int .i64 j ∧ Hid ((l.take j).all f = true) ∧ wr = w.drewN q)
  case atStart => exact ⟨0, 0, rfl, rfl, by show _ = _; simp, rfl⟩
  case round =>
    obtain ⟨j, q, hk, rfl, hall, rfl⟩ := hrel
    replace hk := Lib.hid hk
    have H1 := Lib.hid (H0.out.drewN q)
    rcases Nat.lt_or_ge j N with hj | hj
    · have hj0 : (0 : Int) ≤ (j : Int) := by omega
      have hj1 : (j : Int) < (N : Int) := by omega
      have hw6 : IntKind.i64.wrap ((j : Int) + 1) = ((j + 1 : Nat) : Int) := by rw [IntWalk.i64_in _ (by omega)]; omega
      obtain ⟨x, hx⟩ : ∃ x, l[j]? = some x := ⟨_, List.getElem?_eq_getElem (by have := hN.out; omega)⟩
      obtain ⟨g, off, rfl⟩ := (hl.out _ H0.out).some_ (by have := hN.out; omega)
      have s0 : w.cell? ⟨g, off + j, none⟩ = some (.int .i64 x) := by have := (hl.out _ H0.out).cell hx 0 rfl; simpa [Enc.num] using this
      have htk : Hid (l.take (j + 1) = l.take j ++ [x]) := by show _ = _; rw [List.take_add_one, hx]; rfl
      cases hb : f x with
      | true =>
        have hall' : Hid ((l.take (j + 1)).all f = true) := by
          show _ = _
          rw [htk.out, List.all_append, hall.out]
          simp [hb]
        replace hx := Lib.hid hx
        go_wp2_with fail
        refine (hc.out x _ H1.out).mono ?_
        rw [hb]
        rintro e w2 ⟨rfl, q2, rfl⟩
        go_wp2_with fail
        go_roundg (N - (j + 1))
        case measure => have := hk.out; omega
        case rel => exact ⟨j + 1, _, by have := hk.out; omega, by go_num, hall', by first | rfl | exact World.drewN_drewN ..⟩
      | false =>
        have hno : Hid (l.all f = false) := by
          show _ = _
          rw [List.all_eq_false]
          exact ⟨x, List.mem_of_getElem? hx, by simp [hb]⟩
        replace hx := Lib.hid hx
        go_wp2_with fail
        refine (hc.out x _ H1.out).mono ?_
        rw [hb]
        rintro e w2 ⟨rfl, q2, rfl⟩
        go_wp2_with fail
        go_ret
        exact ⟨j, rfl, by rw [hno.out]; simp, _, by first | rfl | exact World.drewN_drewN ..⟩
    · have hj1 : decide ((j : Int) < (N : Int)) = false := by rw [decide_eq_false_iff_not]; omega
      have hj2 : decide (j < N) = false := by rw [decide_eq_false_iff_not]; omega
      have hyes : Hid (l.all f = true) := by
        have h := hall.out
        rwa [List.take_of_length_le (by have := hN.out; omega)] at h
      clear hj
      go_wp2_with fail
      go_ret
      exact ⟨-1, rfl, by rw [hyes.out]; rfl, _, rfl⟩
theorem conf_all (p bt : Nat) (v : Vs) (s : Co) (lv : Value) (l : List Int) (f : Int → Bool) (w w0 : World) (R : List HP) (H : Hs w0 w R) (hl : ∀ w', Hs w0 w' R → RdL (Enc.num .i64) w' lv l) (hlen : l.length ≤ 1000)
    (hc : ∀ x w', Hs w0 w' R → Calls Try.prog 33 #[.int .i64 x, .pointer (some ⟨bt, 0, none⟩)] w' fun e w'' => e = .returned (.bool (!f x)) ∧ ∃ n, w'' = w'.drewN n) :
    Calls Try.prog 30 #[lv, .func (.func 33) #[] #[.pointer (some ⟨bt, 0, none⟩)]] w fun e w' => e = .returned (.bool (!l.all f)) ∧ ∃ n, w' = w.drewN n := by
  obtain ⟨b, hb⟩ : ∃ b, (!l.all f) = b := ⟨_, rfl⟩
  rw [hb]
  have hi := idxf_all p bt v s lv l f w w0 R H hl hlen hc
  rw [hb] at hi
  replace hi := Lib.hid hi
  clear hc hl H hb
  go_enter Try.func30, Try.ntmps30
  go_wp2_with fail
  refine hi.out.mono ?_
  rintro e w1 ⟨r, rfl, h, n, rfl⟩
  replace h := Lib.hid h
  go_wp2_with fail
  go_ret
  exact ⟨by rw [← h.out]; rfl, _, rfl⟩
set_option maxRecDepth 100000 in
theorem idxf_set (p bt : Nat) (v : Vs) (s : Co) (lv : Value) (l : List Int) (f : Int → Bool) (w w0 : World) (R : List HP) (H : Hs w0 w R) (hl : ∀ w', Hs w0 w' R → RdL (Enc.num .i64) w' lv l) (hlen : l.length ≤ 1000)
    (hc : ∀ x w', Hs w0 w' R → Calls Try.prog 31 #[.int .i64 x, .pointer (some ⟨bt, 0, none⟩)] w' fun e w'' => e = .returned (.bool (!f x)) ∧ ∃ n, w'' = w'.drewN n) :
    Calls Try.prog 34 #[lv, .func (.func 31) #[] #[.pointer (some ⟨bt, 0, none⟩)]] w fun e w' => ∃ r : Int, e = .returned (.int .i64 r) ∧ decide (0 ≤ r) = !l.all f ∧ ∃ n, w' = w.drewN n := by
  obtain ⟨Al, cl, hlv⟩ := (hl w H).form
  subst hlv
  have hcl := (hl w H).caps.2
  obtain ⟨N, hN⟩ : ∃ N, l.length = N := ⟨_, rfl⟩
  rw [hN] at hcl hl hlen ⊢
  replace hl := Lib.hid hl
  replace hc := Lib.hid hc
  replace hN := Lib.hid hN
  have H0 := Lib.hid H
  clear H
  go_enter Try.func34, Try.ntmps34
  go_wp2_with fail
  go_loopg [8] N (fun k iv wr => ∃ (j q : Nat), k + j = N ∧ iv = .int .i64 j ∧ Hid ((l.take j).all f = true) ∧ wr = w.drewN q)
  case atStart => exact ⟨0, 0, rfl, rfl, by show _ = _; simp, rfl⟩
  case round =>
    obtain ⟨j, q, hk, rfl, hall, rfl⟩ := hrel
    replace hk := Lib.hid hk
    have H1 := Lib.hid (H0.out.drewN q)
    rcases Nat.lt_or_ge j N with hj | hj
    · have hj0 : (0 : Int) ≤ (j : Int) := by omega
      have hj1 : (j : Int) < (N : Int) := by omega
      have hw6 : IntKind.i64.wrap ((j : Int) + 1) = ((j + 1 : Nat) : Int) := by rw [IntWalk.i64_in _ (by omega)]; omega
      obtain ⟨x, hx⟩ : ∃ x, l[j]? = some x := ⟨_, List.getElem?_eq_getElem (by have := hN.out; omega)⟩
      obtain ⟨g, off, rfl⟩ := (hl.out _ H0.out).some_ (by have := hN.out; omega)
      have s0 : w.cell? ⟨g, off + j, none⟩ = some (.int .i64 x) := by have := (hl.out _ H0.out).cell hx 0 rfl; simpa [Enc.num] using this
      have htk : Hid (l.take (j + 1) = l.take j ++ [x]) := by show _ = _; rw [List.take_add_one, hx]; rfl
      cases hb : f x with
      | true =>
        have hall' : Hid ((l.take (j + 1)).all f = true) := by
          show _ = _
          rw [htk.out, List.all_append, hall.out]
          simp [hb]
        replace hx := Lib.hid hx
        go_wp2_with fail
        refine (hc.out x _ H1.out).mono ?_
        rw [hb]
        rintro e w2 ⟨rfl, q2, rfl⟩
        go_wp2_with fail
        go_roundg (N - (j + 1))
        case measure => have := hk.out; omega
        case rel => exact ⟨j + 1, _, by have := hk.out; omega, by go_num, hall', by first | rfl | exact World.drewN_drewN ..⟩
      | false =>
        have hno : Hid (l.all f = false) := by
          show _ = _
          rw [List.all_eq_false]
          exact ⟨x, List.mem_of_getElem? hx, by simp [hb]⟩
        replace hx := Lib.hid hx
        go_wp2_with fail
        refine (hc.out x _ H1.out).mono ?_
        rw [hb]
        rintro e w2 ⟨rfl, q2, rfl⟩
        go_wp2_with fail
        go_ret
        exact ⟨j, rfl, by rw [hno.out]; simp, _, by first | rfl | exact World.drewN_drewN ..⟩
    · have hj1 : decide ((j : Int) < (N : Int)) = false := by rw [decide_eq_false_iff_not]; omega
      have hj2 : decide (j < N) = false := by rw [decide_eq_false_iff_not]; omega
      have hyes : Hid (l.all f = true) := by
        have h := hall.out
        rwa [List.take_of_length_le (by have := hN.out; omega)] at h
      clear hj
      go_wp2_with fail
      go_ret
      exact ⟨-1, rfl, by rw [hyes.out]; rfl, _, rfl⟩
theorem conf_set (p bt : Nat) (v : Vs) (s : Co) (lv : Value) (l : List Int) (f : Int → Bool) (w w0 : World) (R : List HP) (H : Hs w0 w R) (hl : ∀ w', Hs w0 w' R → RdL (Enc.num .i64) w' lv l) (hlen : l.length ≤ 1000)
    (hc : ∀ x w', Hs w0 w' R → Calls Try.prog 31 #[.int .i64 x, .pointer (some ⟨bt, 0, none⟩)] w' fun e w'' => e = .returned (.bool (!f x)) ∧ ∃ n, w'' = w'.drewN n) :
    Calls Try.prog 30 #[lv, .func (.func 31) #[] #[.pointer (some ⟨bt, 0, none⟩)]] w fun e w' => e = .returned (.bool (!l.all f)) ∧ ∃ n, w' = w.drewN n := by
  obtain ⟨b, hb⟩ : ∃ b, (!l.all f) = b := ⟨_, rfl⟩
  rw [hb]
  have hi := idxf_set p bt v s lv l f w w0 R H hl hlen hc
  rw [hb] at hi
  replace hi := Lib.hid hi
  clear hc hl H hb
  go_enter Try.func30, Try.ntmps30
  go_wp2_with fail
  refine hi.out.mono ?_
  rintro e w1 ⟨r, rfl, h, n, rfl⟩
  replace h := Lib.hid h
  go_wp2_with fail
  go_ret
  exact ⟨by rw [← h.out]; rfl, _, rfl⟩
end Go.Proofs.Ythjinahfhpgpmaa

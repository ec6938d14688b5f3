import Derived.Test.YtlhgmfdmkckmhaaRa
import Derived.Test.YtlhgmfdmkckmhaaPt
import Derived.IntWalk
import Derived.Test.YtlhgmfdmkckmhaaProg
import Derived.Test.YtlhgmfdmkckmhaaLs
import Derived.Outline
import Derived.StillTailTactics
import Derived.Deep.DeepCutAuto
import Derived.Deep.CutBlock
import Derived.Deep.LoopGhost
import Derived.Deep.QuietTactic
import Derived.BigQuiet
import Derived.Deep.RegionHeld3
import Derived.Deep.RegionLaw
set_option linter.unusedVariables false
set_option linter.unusedSimpArgs false
namespace Go.Proofs.Ytlhgmfdmkckmhaa
open Go.RowKit
/-! ### the reference of layer 15: its cells -/
section
variable {w0 w : World} {R : List HP}
def RefP (p : Nat) (r : Rf) : HP := Ex fun vm => Ex fun vc => Ex fun vk => Star (Blk p (.cells #[vm, .int .u64 r.last, .int .u64 r.under, .bool r.over, vc, vk] 62 (0, 0)))
  (Star (Ls (Enc.num .i64) 2 vm r.m) (Star (Ls Enc.flag 4 vc r.come) (Ls EOut 46 vk r.cap)))
theorem RefP.open_ {p : Nat} {r : Rf} (H : Hs w0 w (RefP p r :: R)) : ∃ Am cm Ac cc Ak ck, Hs w0 w (Blk p (.cells #[.slice Am r.m.length cm, .int .u64 r.last, .int .u64 r.under, .bool r.over, .slice Ac r.come.length cc, .slice Ak r.cap.length ck] 62 (0, 0)) ::
    Ls (Enc.num .i64) 2 (.slice Am r.m.length cm) r.m :: Ls Enc.flag 4 (.slice Ac r.come.length cc) r.come :: Ls EOut 46 (.slice Ak r.cap.length ck) r.cap :: R) := by
  obtain ⟨vm, H⟩ := H.ex
  obtain ⟨vc, H⟩ := H.ex
  obtain ⟨vk, H⟩ := H.ex
  have H := H.part.at1.part.at1.part
  obtain ⟨Ac, cc, rfl⟩ := H.ls_form
  obtain ⟨Ak, ck, rfl⟩ := H.at1.ls_form
  obtain ⟨Am, cm, rfl⟩ := H.at2.ls_form
  exact ⟨Am, cm, Ac, cc, Ak, ck, H.at1.at1.at2.at3⟩
theorem RefP.mk_ {p : Nat} {r : Rf} {vm vc vk : Value} (H : Hs w0 w (Blk p (.cells #[vm, .int .u64 r.last, .int .u64 r.under, .bool r.over, vc, vk] 62 (0, 0)) ::
    Ls (Enc.num .i64) 2 vm r.m :: Ls Enc.flag 4 vc r.come :: Ls EOut 46 vk r.cap :: R)) : Hs w0 w (RefP p r :: R) := by
  have H : Hs w0 w (Star _ (Star _ (Star _ _)) :: R) := H.at3.at3.join.at2.join.at1.join
  exact H.mono fun h hh => ⟨vm, vc, vk, hh⟩
end
section
variable (p : Nat) (r : Rf) (w w0 : World) (R : List HP) (H : Hs w0 w (RefP p r :: R))
include H
set_option maxRecDepth 100000 in
theorem rmark26 (hn0 : r.m ≠ []) : Calls Try.prog 26 #[.pointer (some ⟨p, 0, none⟩)] w fun e w' => e = .returned (.int .i64 (lmin r.m)) ∧ w = w' := by
  obtain ⟨Am, cm, Ac, cc, Ak, ck, H⟩ := RefP.open_ H
  obtain ⟨n, hn⟩ : ∃ n, r.m.length = n := ⟨_, rfl⟩
  have hnp : 0 < n := by rw [← hn]; exact List.length_pos_iff.2 hn0
  rw [hn] at H
  have k0 : w.cell? ⟨p, 0, none⟩ = some (.slice Am n cm) := H.cellOf 0 rfl
  have hr := H.at1.ls_rd
  have hcap := hr.caps.2
  obtain ⟨g, off, rfl⟩ := hr.some_ (by omega)
  obtain ⟨x0, hx0⟩ : ∃ x, r.m[0]? = some x := ⟨_, List.getElem?_eq_getElem (by omega)⟩
  have c0 : w.cell? ⟨g, off, none⟩ = some (.int .i64 x0) := by have := hr.cell hx0 0 rfl; simpa [Enc.num] using this
  have hn1 : (0 : Int) < (n : Int) := by omega
  have h0 : Hid (lmin (r.m.take 0) = 0 ∨ True) := .inr trivial
  have h1 : Hid (lmin (r.m.take 1) = x0) := by
    show _ = _
    generalize r.m = xs at hx0
    cases xs with
    | nil => simp at hx0
    | cons a l => simp at hx0; subst hx0; rfl
  have hle : Hid (∀ j, 1 ≤ j → ∀ x, r.m[j]? = some x → lmin (r.m.take (j + 1)) = min (lmin (r.m.take j)) x) := fun j hj x hx => by
    rw [List.take_add_one, hx]
    show lmin (r.m.take j ++ [x]) = _
    rw [lmin_snoc _ _ (fun h => by have h2 := congrArg List.length h; rw [List.length_take, List.length_nil] at h2; have h3 := congrArg List.length (rfl : r.m = r.m); have := List.length_pos_iff.2 hn0; omega)]
  replace hr := Lib.hid hr
  replace hx0 := Lib.hid hx0
  replace hn := Lib.hid hn
  clear H hn0
  go_enter Try.func26, Try.ntmps26
  go_wp2_with fail
  clear c0
  go_loopg [3, 4] n (fun k mv iv wr => ∃ (j : Nat) (m : Int), k + j = n ∧ iv = .int .i64 j ∧ mv = .int .i64 m ∧ Hid (lmin (r.m.take (max j 1)) = m) ∧ wr = w)
  case atStart => exact ⟨0, x0, rfl, rfl, rfl, h1, rfl⟩
  case round =>
    obtain ⟨j, m, hk, rfl, rfl, he, rfl⟩ := hrel
    replace hk := Lib.hid hk
    rcases Nat.lt_or_ge j n with hj | hj
    · have hj0 : (0 : Int) ≤ (j : Int) := by omega
      have hj1 : (j : Int) < (n : Int) := by omega
      have hw6 : IntKind.i64.wrap ((j : Int) + 1) = ((j + 1 : Nat) : Int) := by rw [IntWalk.i64_in _ (by have := hcap; omega)]; omega
      obtain ⟨x, hx⟩ : ∃ x, r.m[j]? = some x := ⟨_, List.getElem?_eq_getElem (by have := hn.out; omega)⟩
      have s0 : wr.cell? ⟨g, off + j, none⟩ = some (.int .i64 x) := by have := hr.out.cell hx 0 rfl; simpa [Enc.num] using this
      have hstep : Hid (lmin (r.m.take (max (j + 1) 1)) = min m x) := by
        show _ = _
        rcases Nat.eq_zero_or_pos j with rfl | hp
        · have := hx0.out
          rw [hx] at this
          injection this with this
          have e := he.out
          have e1 := h1.out
          show lmin (r.m.take 1) = _
          have e2 : lmin (r.m.take 1) = m := e
          rw [e2]
          omega
        · have e := hle.out j hp x hx
          have e1 : lmin (r.m.take j) = m := by have := he.out; rwa [show max j 1 = j by omega] at this
          rw [show max (j + 1) 1 = j + 1 by omega, e, e1]
      replace hx := Lib.hid hx
      go_wp2_with fail
      all_goals
        go_roundg (n - (j + 1))
        case measure => have := hk.out; omega
        case rel => exact ⟨j + 1, _, by have := hk.out; omega, by go_num, rfl, by show _ = _; rw [hstep.out]; omega, rfl⟩
    · have hj1 : decide ((j : Int) < (n : Int)) = false := by rw [decide_eq_false_iff_not]; omega
      have hj2 : decide (j < n) = false := by rw [decide_eq_false_iff_not]; omega
      have hfin : Hid (lmin r.m = m) := by
        have h := he.out
        rwa [List.take_of_length_le (by have := hn.out; omega)] at h
      clear hj
      go_wp2_with fail
      go_ret
      rw [hfin.out]
      exact ⟨rfl, rfl⟩
set_option maxRecDepth 100000 in
theorem rblocked27 (ch : Int) (hok : r.come.length = r.m.length) : Calls Try.prog 27 #[.pointer (some ⟨p, 0, none⟩), .int .i64 ch] w fun e w' => e = .returned (.bool (r.blocked ch)) ∧ w = w' := by
  obtain ⟨Am, cm, Ac, cc, Ak, ck, H⟩ := RefP.open_ H
  have k0 : w.cell? ⟨p, 0, none⟩ = some (.slice Am r.m.length cm) := H.cellOf 0 rfl
  have k2 : w.cell? ⟨p, 2, none⟩ = some (.int .u64 r.under) := H.cellOf 2 rfl
  have k3 : w.cell? ⟨p, 3, none⟩ = some (.bool r.over) := H.cellOf 3 rfl
  have k4 : w.cell? ⟨p, 4, none⟩ = some (.slice Ac r.come.length cc) := H.cellOf 4 rfl
  have hcap := H.at2.ls_rd.caps.2
  obtain ⟨N, hN⟩ : ∃ N, r.m.length = N := ⟨_, rfl⟩
  have hcl : r.come.length = N := by omega
  obtain ⟨U, hU⟩ : ∃ U, r.under = U := ⟨_, rfl⟩
  obtain ⟨O, hO⟩ : ∃ O, r.over = O := ⟨_, rfl⟩
  have hb : r.blocked ch = (decide (0 ≤ ch) && decide (ch < (N : Int)) && U != 0 && !O && r.come.getD ch.toNat false) := by unfold Rf.blocked; rw [hN, hU, hO]
  rw [hN] at k0
  rw [hU] at k2
  rw [hO] at k3
  rw [hcl] at k4 hcap
  rw [hb]
  clear hb hO hU
  by_cases h0 : 0 ≤ ch
  · by_cases hl : ch < (N : Int)
    · by_cases hu : U = 0
      · have hu1 : (U != 0) = false := by rw [bne_eq_false_iff_eq]; exact hu
        have e : Hid ((decide (0 ≤ ch) && decide (ch < (N : Int)) && U != 0 && !O && r.come.getD ch.toNat false) = false) := by show _ = _; rw [hu1]; simp
        rw [e.out]
        clear H hok hN hcl k3 k4 hu
        go_enter Try.func27, Try.ntmps27
        go_wp2_with fail
        go_ret
        exact ⟨rfl, rfl⟩
      · have hu1 : (U != 0) = true := by rw [bne_iff_ne]; exact hu
        cases O with
        | true =>
          have e : Hid ((decide (0 ≤ ch) && decide (ch < (N : Int)) && U != 0 && !true && r.come.getD ch.toNat false) = false) := by show _ = _; simp
          rw [e.out]
          clear H hok hN hcl k4 hu
          go_enter Try.func27, Try.ntmps27
          go_wp2_with fail
          go_ret
          exact ⟨rfl, rfl⟩
        | false =>
          obtain ⟨k, rfl⟩ := Int.eq_ofNat_of_zero_le h0
          obtain ⟨x, hx⟩ : ∃ x, r.come[k]? = some x := ⟨_, List.getElem?_eq_getElem (by omega)⟩
          obtain ⟨g, off, rfl⟩ := H.at2.ls_rd.some_ (by omega)
          have cx : w.cell? ⟨g, off + k, none⟩ = some (.bool x) := by have := H.at2.ls_rd.cell hx 0 rfl; simpa [Enc.flag] using this
          have e : Hid ((decide (0 ≤ (k : Int)) && decide ((k : Int) < (N : Int)) && U != 0 && !false && r.come.getD (k : Int).toNat false) = x) := by
            show _ = _
            rw [decide_eq_true h0, decide_eq_true hl, hu1, Int.toNat_natCast, List.getD_eq_getElem?_getD, hx]; rfl
          rw [e.out]
          clear H hok hN hcl hu hx
          go_enter Try.func27, Try.ntmps27
          go_wp2_with fail
          go_ret
          exact ⟨rfl, rfl⟩
    · have hl1 : decide (ch < (N : Int)) = false := by rw [decide_eq_false_iff_not]; exact hl
      have e : Hid ((decide (0 ≤ ch) && decide (ch < (N : Int)) && U != 0 && !O && r.come.getD ch.toNat false) = false) := by show _ = _; rw [hl1]; simp
      rw [e.out]
      clear H hok hN hcl hl
      go_enter Try.func27, Try.ntmps27
      go_wp2_with fail
      go_ret
      exact ⟨rfl, rfl⟩
  · have h1 : decide (0 ≤ ch) = false := by rw [decide_eq_false_iff_not]; exact h0
    have e : Hid ((decide (0 ≤ ch) && decide (ch < (N : Int)) && U != 0 && !O && r.come.getD ch.toNat false) = false) := by show _ = _; rw [h1]; simp
    rw [e.out]
    clear H hok hN hcl h0
    go_enter Try.func27, Try.ntmps27
    go_wp2_with fail
    go_ret
    exact ⟨rfl, rfl⟩
end
end Go.Proofs.Ytlhgmfdmkckmhaa

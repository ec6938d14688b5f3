import Derived.Test.YthjinahfhpgpmaaKn
import Derived.Test.YthjinahfhpgpmaaSx
import Derived.IntWalk
import Derived.Test.YthjinahfhpgpmaaProg
import Derived.Test.YthjinahfhpgpmaaLs
import Derived.Outline
import Derived.StillTailTactics
import Derived.Deep.DeepCutAuto
import Derived.Deep.CutBlock
import Derived.Deep.LoopGhost
import Derived.Deep.QuietTactic
import Derived.BigQuiet
import Derived.Deep.RegionHeld3
import Derived.Deep.RegionLaw
set_option linter.unusedVariables false
set_option linter.unusedSimpArgs false
namespace Go.Proofs.Ythjinahfhpgpmaa
open Go.RowKit
def iota (n : Nat) : List Int := (List.range n).map Int.ofNat
/-- A coordinator of n tasks, the first one a sink, of which k are ready. -/
def Rk (n k : Nat) (i t : Int) : Co := ⟨iota n, [0], i, t, 1, 0, 0, fun x => decide (0 ≤ x ∧ x < (k : Int)), nobody, fun _ => 0, 0, 0, false, t, 0, 0, 0⟩
theorem iota_uniq : ∀ n < 9, uniq [] (iota n) = iota n := by decide
theorem iota_len (n : Nat) : (iota n).length = n := by simp [iota]
theorem iota_succ (n : Nat) : iota (n + 1) = iota n ++ [(n : Int)] := by unfold iota; rw [List.range_succ, List.map_append]; rfl
theorem iota_mem (n : Nat) (x : Int) : (iota n).contains x = decide (0 ≤ x ∧ x < (n : Int)) := by
  rw [Bool.eq_iff_iff, List.contains_iff_mem, decide_eq_true_iff]
  unfold iota
  rw [List.mem_map]
  constructor
  · rintro ⟨a, ha, rfl⟩
    have := List.mem_range.1 ha
    exact ⟨Int.natCast_nonneg a, Int.ofNat_lt.2 this⟩
  · rintro ⟨h1, h2⟩
    exact ⟨x.toNat, List.mem_range.2 (by omega), by show ((x.toNat : Nat) : Int) = x; omega⟩
theorem iota_all (n : Nat) (f : Int → Bool) : (iota n).all f = true ↔ ∀ x : Int, 0 ≤ x → x < (n : Int) → f x = true := by
  rw [List.all_eq_true]
  constructor
  · intro h x h1 h2
    exact h x (by rw [← List.contains_iff_mem, iota_mem, decide_eq_true_iff]; exact ⟨h1, h2⟩)
  · intro h x hx
    rw [← List.contains_iff_mem, iota_mem, decide_eq_true_iff] at hx
    exact h x hx.1 hx.2
theorem iota_take1 (n : Nat) (hn : 1 ≤ n) : (iota n).take 1 = [0] := by
  obtain ⟨m, rfl⟩ : ∃ m, n = m + 1 := ⟨n - 1, by omega⟩
  unfold iota
  rw [List.range_succ_eq_map]
  rfl
theorem rk_new (n : Nat) (hn : 1 ≤ n) (hn9 : n < 9) (i t : Int) : ((Co.new (iota n) ((iota n).take 1) i t).begin 1 0 0).1 = Rk n 0 (clampC i) (clampC t) := by
  have h1 := iota_uniq n hn9
  have h2 : uniqIn (iota n) [] [0] = [0] := by
    show (if (iota n).contains 0 && !([] : List Int).contains 0 then [] ++ [0] else []) = [0]
    rw [iota_mem, decide_eq_true (by omega)]
    rfl
  unfold Co.begin Co.new
  rw [h1, iota_take1 n hn, h2]
  show (if (1 : Int) ≤ 0 then _ else _ : Co × List Ctl).1 = _
  rw [if_neg (by decide)]
  have hf : nobody = fun x : Int => decide (0 ≤ x ∧ x < ((0 : Nat) : Int)) := by
    funext x
    show false = _
    rw [eq_comm, decide_eq_false_iff_not]
    omega
  unfold Rk
  rw [← hf]
  rfl
theorem rk_take (n k : Nat) (hk : k < n) (i t : Int) : (Rk n k i t).take (6, 1, 0, (k : Int)) = (Rk n (k + 1) i t, 0) := by
  have h1 : (iota n).contains (k : Int) = true := by rw [iota_mem, decide_eq_true_iff]; omega
  unfold Co.take
  rw [if_neg (by
    rintro (h | h | h)
    · exact h rfl
    · exact absurd h (by show (1 : Int) ≠ 0; decide)
    · have : (iota n).contains (k : Int) = false := h
      rw [h1] at this; cases this)]
  rw [if_pos ⟨rfl, rfl, by show decide _ = false; rw [decide_eq_false_iff_not]; show ¬(0 ≤ (k : Int) ∧ (k : Int) < (k : Int)); omega⟩]
  have hf : updf (fun x => decide (0 ≤ x ∧ x < (k : Int))) (k : Int) true = fun x => decide (0 ≤ x ∧ x < ((k + 1 : Nat) : Int)) := by
    funext x
    unfold updf
    split
    · rw [eq_comm, decide_eq_true_iff]; omega
    · exact decide_eq_decide.2 (by omega)
  unfold Co.readied
  show (if _ then ({ Rk n k i t with ready := updf (fun x => decide (0 ≤ x ∧ x < (k : Int))) (k : Int) true, since := 0 } : Co) else { Rk n k i t with ready := updf (fun x => decide (0 ≤ x ∧ x < (k : Int))) (k : Int) true }, (0 : Int)) = _
  rw [hf]
  split <;> rfl
set_option maxRecDepth 100000 in
set_option maxHeartbeats 2000000 in
theorem ready16 (n : Nat) (hn : 1 ≤ n) (hn9 : n < 9) (i0 t0 : Int) (w w0 : World) (R : List HP) (H : Hs w0 w R) :
    Calls Try.prog 16 #[.int .i64 n, .int .i64 i0, .int .i64 t0] w fun e w' => ∃ p v, e = .returned (.pointer (some ⟨p, 0, none⟩)) ∧ Hs w0 w' (CoV p v (Rk n n (clampC i0) (clampC t0)) :: R) := by
  have H0 := Lib.hid (H.ls_nil (Enc.num .i64) 3)
  clear H
  go_enter Try.func16, Try.ntmps16
  go_wp2_with fail
  go_loopg [7, 8] n (fun k ov iv wr => ∃ (j : Nat) (A : Option Addr) (c : Nat), k + j = n ∧ iv = .int .i64 j ∧ ov = .slice A j c ∧ Hid (Hs w0 wr (Ls (Enc.num .i64) 3 (.slice A j c) (iota j) :: R)))
  case atStart => exact ⟨0, none, 0, rfl, rfl, rfl, H0⟩
  case round =>
    clear H0
    obtain ⟨j, A, c, hk, rfl, rfl, H⟩ := hrel
    replace hk := Lib.hid hk
    rcases Nat.lt_or_ge j n with hj | hj
    · have hj1 : (j : Int) < (n : Int) := by omega
      have hw6 : IntKind.i64.wrap ((j : Int) + 1) = ((j + 1 : Nat) : Int) := by rw [IntWalk.i64_in _ (by omega)]; omega
      go_wp2_with (at_builtin; refine wpList_append1N (E := Enc.num .i64) j (iota_len j) rfl (.tmp 16) (.tmp 18) 24 rfl 3 _ 1 8 Try.underlying24 infoI rfl (by decide) (by decide) rfl rfl rfl (by simp) H.out (j : Int) (by omega) ?_)
      intro A5 c5 w5 H5
      rw [← iota_succ] at H5
      replace H5 := Lib.hid H5
      clear H
      go_wp2_with fail
      go_roundg (n - (j + 1))
      case measure => have := hk.out; omega
      case rel => exact ⟨j + 1, A5, c5, by have := hk.out; omega, by go_num, by first | rfl | simp, H5⟩
    · have hj1 : decide ((j : Int) < (n : Int)) = false := by rw [decide_eq_false_iff_not]; omega
      have hj2 : decide (j < n) = false := by rw [decide_eq_false_iff_not]; omega
      have hjn : j = n := by have := hk.out; omega
      subst hjn
      have hcap := H.out.ls_rd.caps.2
      obtain ⟨g, off, rfl⟩ := H.out.ls_rd.some_ (by rw [iota_len]; omega)
      have hct := cut_take Try.prog 24 3 1 Try.underlying24 (by kernel_rfl) (some ⟨g, off, none⟩) j c 1 (by omega)
      have hd1 : Hid (∀ w', Hs w0 w' (Ls (Enc.num .i64) 3 (.slice (some ⟨g, off, none⟩) j c) (iota j) :: R) → RdL (Enc.num .i64) w' (.slice (some ⟨g, off, none⟩) 1 c) ((iota j).take 1)) := fun w' h => h.ls_rd.take 1 (by omega)
      clear hj hk hj1
      go_wp2_with fail
      refine (new10 _ _ (iota j) ((iota j).take 1) i0 t0 _ w0 _ H.out (fun w' h => h.ls_rd) (fun w' h => hd1.out w' h) (by rw [iota_len]; omega) (by rw [List.length_take]; omega)).mono ?_
      rintro e w1 ⟨p, v, rfl, H1⟩
      obtain ⟨s0, hs0⟩ : ∃ s0, s0 = Co.new (iota j) ((iota j).take 1) i0 t0 := ⟨_, rfl⟩
      have hbg := Lib.hid (rk_new j hn hn9 i0 t0)
      have htl : s0.tasks.length ≤ 1000 := by
        rw [hs0]
        show (uniq [] (iota j)).length ≤ 1000
        rw [iota_uniq j hn9, iota_len]
        omega
      rw [← hs0] at H1 hbg
      clear hs0 hct hd1
      have H2 := Lib.hid H1.at1.tail
      clear H H1
      go_wp2_with fail
      refine (begin11 p v s0 _ w0 _ H2.out 1 0 0 htl).mono ?_
      rw [hbg.out]
      rintro e w2 ⟨A3, c3, rfl, H3⟩
      have H4 := Lib.hid H3.tail
      clear H2 H3 hbg htl hcap
      go_wp2_with fail
      go_loopg [10] j (fun m iv wr => ∃ k : Nat, m + k = j ∧ iv = .int .i64 k ∧ Hid (Hs w0 wr (CoV p v (Rk j k (clampC i0) (clampC t0)) :: R)))
      case atStart => exact ⟨0, rfl, rfl, H4⟩
      case round =>
        clear H4
        obtain ⟨k, hk, rfl, H⟩ := hrel
        replace hk := Lib.hid hk
        rcases Nat.lt_or_ge k j with hj | hj
        · have hj1 : (k : Int) < (j : Int) := by omega
          have hw6 : IntKind.i64.wrap ((k : Int) + 1) = ((k + 1 : Nat) : Int) := by rw [IntWalk.i64_in _ (by omega)]; omega
          have hrt := Lib.hid (rk_take j k hj (clampC i0) (clampC t0))
          go_wp2_with fail
          refine (take14 p v _ _ w0 _ H.out 6 1 0 k (by show (iota j).length ≤ 1000; rw [iota_len]; omega)).mono ?_
          rw [hrt.out]
          rintro e w3 ⟨rfl, H5⟩
          replace H5 := Lib.hid H5
          clear H hrt
          go_wp2_with fail
          go_roundg (j - (k + 1))
          case measure => have := hk.out; omega
          case rel => exact ⟨k + 1, by have := hk.out; omega, by go_num, H5⟩
        · have hj1 : decide ((k : Int) < (j : Int)) = false := by rw [decide_eq_false_iff_not]; omega
          have hj3 : decide (k < j) = false := by rw [decide_eq_false_iff_not]; omega
          have hkj : k = j := by have := hk.out; omega
          rw [hkj] at H
          clear hj hk hkj
          go_wp2_with fail
          go_ret
          exact ⟨p, v, rfl, H.out⟩
end Go.Proofs.Ythjinahfhpgpmaa

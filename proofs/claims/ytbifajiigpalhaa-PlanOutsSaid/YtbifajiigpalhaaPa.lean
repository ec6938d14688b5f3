import Derived.Test.YtbifajiigpalhaaMd
import Derived.Test.YtbifajiigpalhaaProg
import Derived.Test.YtbifajiigpalhaaLs
import Derived.Outline
import Derived.StillTailTactics
import Derived.Deep.DeepCutAuto
import Derived.Deep.CutBlock
import Derived.Deep.LoopGhost
import Derived.Deep.QuietTactic
import Derived.BigQuiet
import Derived.Deep.RegionHeld3
import Derived.Deep.RegionLaw
set_option linter.unusedVariables false
set_option linter.unusedSimpArgs false
namespace Go.Proofs.Ytbifajiigpalhaa
open Go.RowKit
theorem infoI : (Try.prog.info? 3).map (fun i => (i.zero, i.size, i.bytes)) = some (some (.int .i64 0), 1, 8) := by kernel_rfl
section
variable (jv : Value) (zs : List Nd) (w w0 : World) (R : List HP) (H : Hs w0 w R) (hr : JobR w jv zs)
include H hr
set_option maxRecDepth 100000 in
theorem is29 (k : Int) : Calls Try.prog 29 #[.agg #[jv], .int .i64 k] w fun e w' => e = .returned (.bool (isN zs.length k)) ∧ Hs w0 w' R ∧ ∃ o, w' = w.alloc o := by
  obtain ⟨A, c, rfl⟩ := hr.form
  have K := Lib.hid (H.alloc_ (.cells #[.slice A zs.length c] 24))
  obtain ⟨n, hn⟩ : ∃ n, zs.length = n := ⟨_, rfl⟩
  rw [hn] at K ⊢
  clear H hr hn
  by_cases h0 : 0 ≤ k
  · go_enter Try.func29, Try.ntmps29
    go_wp2_with fail
    go_ret
    exact ⟨by unfold isN; rw [decide_eq_true h0, Bool.true_and]; rfl, K.out, _, rfl⟩
  · have h1 : decide (0 ≤ k) = false := by simpa using h0
    clear h0
    go_enter Try.func29, Try.ntmps29
    go_wp2_with fail
    go_ret
    exact ⟨by unfold isN; rw [h1, Bool.false_and]; rfl, K.out, _, rfl⟩
set_option maxRecDepth 100000 in
theorem keyed18 (k : Int) : Calls Try.prog 18 #[.agg #[jv], .int .i64 k] w fun e w' => e = .returned (.bool (keyed zs k)) ∧ Hs w0 w' R := by
  have hj := hr
  obtain ⟨A, c, rfl⟩ := hr.form
  have K := H.alloc (.cells #[.slice A zs.length c] 24)
  have hj2 : JobR (w.alloc (.cells #[.slice A zs.length c] 24)) (.slice A zs.length c) zs := hj.step fun k hk => Below.heap_alloc w _ k hk
  have hcap := hj.1.caps.2
  replace K := Lib.hid K
  replace hj := Lib.hid hj
  replace hj2 := Lib.hid hj2
  clear H hr
  go_enter Try.func18, Try.ntmps18
  go_wp2_with fail
  generalize World.alloc w _ = w1 at K hj2 ⊢
  generalize w.heap.size = bx at K ⊢
  refine (is29 (.slice A zs.length c) zs w1 w0 _ K.out hj2.out k).mono ?_
  rintro e w2 ⟨rfl, K2, o, rfl⟩
  have hj3 : JobR (w1.alloc o) (.slice A zs.length c) zs := hj2.out.step fun k hk => Below.heap_alloc w1 _ k hk
  clear K hj2 hj
  generalize World.alloc w1 _ = w2 at K2 hj3 ⊢
  have b0 : w2.cell? ⟨bx, 0, none⟩ = some (.slice A zs.length c) := K2.cellOf 0 rfl
  have kd : Hid (keyed zs k = (isN zs.length k && (match zs[k.toNat]? with | some z => keyK z.kind | none => false))) := rfl
  cases hi : isN zs.length k with
  | false =>
    replace K2 := Lib.hid K2
    clear hj3
    go_wp2_with fail
    go_ret
    exact ⟨by rw [kd.out, hi, Bool.false_and]; rfl, K2.out.tail⟩
  | true =>
    have hi2 := hi
    unfold isN at hi2
    simp only [Bool.and_eq_true, decide_eq_true_eq] at hi2
    obtain ⟨m, rfl⟩ := Int.eq_ofNat_of_zero_le hi2.1
    have hm : m < zs.length := by omega
    obtain ⟨z, hz⟩ : ∃ z, zs[m]? = some z := ⟨_, List.getElem?_eq_getElem hm⟩
    obtain ⟨g, off, rfl⟩ := hj3.1.some_ (by rw [List.length_map]; omega)
    obtain ⟨c0, _⟩ := hj3.cells hz
    have hk0 : (0 : Int) ≤ (m : Int) := by omega
    have hk1 : (m : Int) < (zs.length : Int) := by omega
    have kd2 : Hid (keyed zs (m : Int) = keyK z.kind) := by show _ = _; rw [kd.out, hi, Int.toNat_natCast, hz]; rfl
    replace K2 := Lib.hid K2
    obtain ⟨x, hx⟩ : ∃ x, z.kind = x := ⟨_, rfl⟩
    rw [hx] at c0 kd2
    clear hj3 hi hi2 hz kd hx hm
    cases h6 : x == 6 with
    | true =>
      go_wp2_with fail
      go_ret
      exact ⟨by rw [kd2.out]; unfold keyK; rw [h6]; rfl, K2.out.tail⟩
    | false =>
      go_wp2_with fail
      go_ret
      exact ⟨by rw [kd2.out]; unfold keyK; rw [h6]; rfl, K2.out.tail⟩
end
end Go.Proofs.Ytbifajiigpalhaa

import Derived.Test.YtbifajiigpalhaaNd
import Derived.IntWalk
import Derived.Test.YtbifajiigpalhaaProg
import Derived.Test.YtbifajiigpalhaaLs
import Derived.Outline
import Derived.StillTailTactics
import Derived.Deep.DeepCutAuto
import Derived.Deep.CutBlock
import Derived.Deep.LoopGhost
import Derived.Deep.QuietTactic
import Derived.BigQuiet
import Derived.Deep.RegionHeld3
import Derived.Deep.RegionLaw
set_option linter.unusedVariables false
set_option linter.unusedSimpArgs false
namespace Go.Proofs.Ytbifajiigpalhaa
open Go.RowKit
set_option maxRecDepth 100000 in
set_option maxHeartbeats 4000000 in
theorem check28 {W : World} (jv : Value) (zs : List Nd) (hx : JobX W jv zs) (w : World) (hk : Kept W w) (hN40 : zs.length ≤ 40) : Calls Try.prog 28 #[.agg #[jv]] w (LightV zs w) := by
  obtain ⟨Aj, cj, hv⟩ := hx.job.form
  subst hv
  have hcj := hx.job.1.caps.2
  have hj := Lib.hid hx.job
  have TL := Lib.hid (fun w hk => light36 (.slice Aj zs.length cj) zs hx w hk)
  have TW := Lib.hid (fun w w0 R H hk h40 => weights37 (.slice Aj zs.length cj) zs hx w w0 R H hk h40)
  have H := Lib.hid ((Hs.start w).alloc (.cells #[.slice Aj zs.length cj] 24))
  obtain ⟨N, hN⟩ : ∃ N, zs.length = N := ⟨_, rfl⟩
  rw [hN] at hcj hj TL TW H hN40 ⊢
  replace hN := Lib.hid hN
  replace hk := Lib.hid hk
  clear hx
  go_enter Try.func28, Try.ntmps28
  go_upto_region 1 with (fail)
  generalize World.alloc w _ = w1 at H ⊢
  generalize w.heap.size = b at H ⊢
  have b0 : w1.cell? ⟨b, 0, none⟩ = some (.slice Aj N cj) := H.out.cellOf 0 rfl
  go_wp2_with fail
  refine (TL.out w1 (hk.out.hs H.out.tail)).mono ?_
  rintro e w2 ⟨r, rfl, hr, hb⟩
  replace hr := Lib.hid hr
  have K := Lib.hid (H.out.below hb)
  clear hb H b0
  cases hr0 : (r != 0) with
  | true =>
    have hrn : Hid (r ≠ 0) := by show ¬ _; simpa using hr0
    go_wp2_with fail
    go_ret
    exact ⟨_, rfl, (fun h => absurd h hrn.out), K.out.tail.under_old⟩
  | false =>
    have hrn : Hid (r = 0) := by show _ = _; simpa using hr0
    have hok := Lib.hid (hr.out hrn.out)
    have b0 : w2.cell? ⟨b, 0, none⟩ = some (.slice Aj N cj) := K.out.cellOf 0 rfl
    clear hr
    go_wp2_with fail
    refine (TW.out w2 w _ K.out (fun w' h => hk.out.hs h.tail) hN40).mono ?_
    rintro e w3 ⟨A, n, c, l, rfl, ⟨hl, hnn⟩, K3⟩
    have hcl := K3.ls_rd.caps.2
    have hnN : n ≤ N := by omega
    replace hl := Lib.hid hl
    replace K3 := Lib.hid K3
    clear b0 K hnn
    have hsz : Hid (∀ x : Int, ¬ x < 9223372036854775807 + 1 → True) := fun _ _ => trivial
    go_wp2_with fail
    go_loopg [5, 6] n (fun k sv iv wr => ∃ (i : Nat) (x : Int), k + i = n ∧ iv = .int .i64 i ∧ sv = .int .i64 x ∧ Hid (wr = w3))
    case atStart => exact ⟨0, 0, rfl, rfl, rfl, Lib.hid rfl⟩
    case round =>
      obtain ⟨i, x, hi, rfl, rfl, hw⟩ := hrel
      have hw := hw.out
      subst hw
      have hin : i ≤ n := by omega
      replace hi := Lib.hid hi
      have hRET := Lib.hid K3.out.tail.tail.under_old
      rcases Nat.lt_or_ge i n with hli | hli
      · have hi0 : (0 : Int) ≤ (i : Int) := by omega
        have hi1 : (i : Int) < (n : Int) := by omega
        have hw7 : IntKind.i64.wrap ((i : Int) + 1) = ((i + 1 : Nat) : Int) := by rw [IntWalk.i64_in _ (by omega)]; omega
        obtain ⟨g, off, rfl⟩ := K3.out.ls_rd.some_ (by have := hl.out; omega)
        obtain ⟨v, hv⟩ : ∃ r, l[i]? = some r := ⟨_, List.getElem?_eq_getElem (by have := hl.out; omega)⟩
        have s0 : wr.cell? ⟨g, off + i, none⟩ = some (.int .i64 v) := by have := K3.out.ls_rd.cell hv 0 rfl; simpa [Enc.num] using this
        have b0 : wr.cell? ⟨b, 0, none⟩ = some (.slice Aj N cj) := K3.out.at1.cellOf 0 rfl
        have hjw : JobR wr (.slice Aj N cj) zs := hj.out.step (hk.out.hs K3.out.tail.tail)
        obtain ⟨gj, oj, rfl⟩ := hjw.1.some_ (by rw [List.length_map, hN.out]; omega)
        obtain ⟨z, hz⟩ : ∃ z, zs[i]? = some z := ⟨_, List.getElem?_eq_getElem (by have := hN.out; omega)⟩
        obtain ⟨d0, _⟩ := hjw.cells hz
        have hiN : (i : Int) < (N : Int) := by omega
        clear hv hjw hz
        rcases (show 64 < v ∨ v ≤ 64 by omega) with h | h
        · go_wp2_with fail
          go_ret
          exact ⟨_, rfl, (fun h => absurd h (by decide)), hRET.out⟩
        · have h1 : decide (64 < v) = false := by rw [decide_eq_false_iff_not]; omega
          cases hk8 : (Nd.kind z == 8) with
          | true =>
            go_wp2_with fail
            go_roundg (n - (i + 1))
            case measure => have := hi.out; omega
            case rel => exact ⟨i + 1, _, by have := hi.out; omega, by go_num, rfl, Lib.hid rfl⟩
          | false =>
            go_wp2_with fail
            go_roundg (n - (i + 1))
            case measure => have := hi.out; omega
            case rel => exact ⟨i + 1, _, by have := hi.out; omega, by go_num, rfl, Lib.hid rfl⟩
      · have hi1 : decide ((i : Int) < (n : Int)) = false := by rw [decide_eq_false_iff_not]; omega
        have hi2 : decide (i < n) = false := by rw [decide_eq_false_iff_not]; omega
        clear hli
        cases hx0 : (x == 0) with
        | true =>
          go_wp2_with fail
          go_ret
          exact ⟨_, rfl, (fun h => absurd h (by decide)), hRET.out⟩
        | false =>
          go_wp2_with fail
          go_ret
          exact ⟨_, rfl, (fun _ => hok.out), hRET.out⟩
def FitV (zs : List Nd) (w : World) (e : Ending) (w' : World) : Prop := ∃ r : Bool, e = .returned (.bool r) ∧ (r = true → JobOk zs) ∧ Below w.heap.size w w'
set_option maxRecDepth 100000 in
set_option maxHeartbeats 4000000 in
theorem fit9 {W : World} (jv : Value) (zs : List Nd) (hx : JobX W jv zs) (w : World) (hk : Kept W w) : Calls Try.prog 9 #[.agg #[jv]] w (FitV zs w) := by
  obtain ⟨Aj, cj, hv⟩ := hx.job.form
  subst hv
  have hcj := hx.job.1.caps.2
  have hj := Lib.hid hx.job
  have he := Lib.hid hx.ex
  have TC := Lib.hid (fun w hk h40 => check28 (.slice Aj zs.length cj) zs hx w hk h40)
  have H := Lib.hid ((Hs.start w).alloc (.cells #[.slice Aj zs.length cj] 24))
  obtain ⟨N, hN⟩ : ∃ N, zs.length = N := ⟨_, rfl⟩
  rw [hN] at hcj hj TC H ⊢
  replace hN := Lib.hid hN
  replace hk := Lib.hid hk
  clear hx
  have hRET := Lib.hid H.out.tail.under_old
  rcases (show 40 < N ∨ N ≤ 40 by omega) with h | h
  · have h1 : (40 : Int) < (N : Int) := by omega
    clear h
    go_enter Try.func9, Try.ntmps9
    go_wp2_with fail
    go_ret
    exact ⟨_, rfl, (fun h => absurd h (by decide)), hRET.out⟩
  · have h1 : decide ((40 : Int) < (N : Int)) = false := by rw [decide_eq_false_iff_not]; omega
    have h2 : decide (40 < N) = false := by rw [decide_eq_false_iff_not]; omega
    clear hRET
    go_enter Try.func9, Try.ntmps9
    go_wp2_with fail
    clear h1 h2
    generalize World.alloc w _ = w1 at H ⊢
    generalize w.heap.size = b at H ⊢
    go_loopg [3] N (fun k iv wr => ∃ (j : Nat), k + j = N ∧ iv = .int .i64 j ∧ Hid (Hs w wr [Blk b (.cells #[.slice Aj N cj] 24), Old w]))
    case atStart => exact ⟨0, rfl, rfl, H⟩
    case round =>
      clear H
      obtain ⟨j, hg, rfl, H⟩ := hrel
      have hjN : j ≤ N := by omega
      replace hg := Lib.hid hg
      have b0 : wr.cell? ⟨b, 0, none⟩ = some (.slice Aj N cj) := H.out.cellOf 0 rfl
      rcases Nat.lt_or_ge j N with hlt | hlt
      · have hj0 : (0 : Int) ≤ (j : Int) := by omega
        have hj1 : (j : Int) < (N : Int) := by omega
        have hw6 : IntKind.i64.wrap ((j : Int) + 1) = ((j + 1 : Nat) : Int) := by rw [IntWalk.i64_in _ (by omega)]; omega
        obtain ⟨z, hz⟩ : ∃ z, zs[j]? = some z := ⟨_, List.getElem?_eq_getElem (by have := hN.out; omega)⟩
        have hexp := he.out z (List.mem_of_getElem? hz)
        have hk2 := hk.out.hs H.out.tail
        have hjw : JobR wr (.slice Aj N cj) zs := hj.out.step hk2
        obtain ⟨gj, oj, rfl⟩ := hjw.1.some_ (by rw [List.length_map, hN.out]; omega)
        have hcc := hjw.cells hz
        obtain ⟨⟨kd, ⟨sa, sn, sc⟩, pr, ⟨eo, en, ⟨ea, el, ec⟩⟩, ag, ⟨wk, ws, wl⟩⟩, ins⟩ := z
        dsimp only [Nd.kind, Nd.sl, Nd.par] at hcc hexp
        obtain ⟨c0, c1, c2, c3, c4, c5, _⟩ := hcc
        have T := light27 hexp 100 40 wr hk2
        unfold erv at T
        dsimp only at T
        replace T := Lib.hid T
        clear hexp hk2 hjw hz c0 c2
        rcases (show 40 < sn ∨ sn ≤ 40 by omega) with h3 | h3
        · have h1 : (40 : Int) < (sn : Int) := by omega
          clear h3
          go_wp2_with fail
          go_ret
          exact ⟨_, rfl, (fun h => absurd h (by decide)), H.out.tail.under_old⟩
        · have h1 : decide ((40 : Int) < (sn : Int)) = false := by rw [decide_eq_false_iff_not]; omega
          have h2 : decide (40 < sn) = false := by rw [decide_eq_false_iff_not]; omega
          clear h3
          go_wp2_with fail
          refine T.out.mono ?_
          rintro e w2 ⟨v, ⟨r, rfl⟩, rfl, hb⟩
          have H2 := Lib.hid (H.out.below hb)
          clear hb H T b0 c1 c3 c4 c5
          cases hr : decide (100 < r) with
          | true =>
            go_wp2_with fail
            go_ret
            exact ⟨_, rfl, (fun h => absurd h (by decide)), H2.out.tail.under_old⟩
          | false =>
            go_wp2_with fail
            go_roundg (N - (j + 1))
            case measure => have := hg.out; omega
            case rel => exact ⟨j + 1, by have := hg.out; omega, by go_num, H2⟩
      · have hj1 : decide ((j : Int) < (N : Int)) = false := by rw [decide_eq_false_iff_not]; omega
        have hj2 : decide (j < N) = false := by rw [decide_eq_false_iff_not]; omega
        clear hlt
        go_wp2_with fail
        refine (TC.out wr (hk.out.hs H.out.tail) h).mono ?_
        rintro e w2 ⟨r, rfl, hr, hb⟩
        have H2 := Lib.hid (H.out.below hb)
        have hr2 : Hid ((r == 0) = true → JobOk zs) := fun h => hr (by simpa using h)
        clear hb hr
        go_wp2_with fail
        go_ret
        exact ⟨_, rfl, hr2.out, H2.out.tail.under_old⟩
end Go.Proofs.Ytbifajiigpalhaa

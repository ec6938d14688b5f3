import Derived.Test.YtbifajiigpalhaaNa
import Derived.Test.YtbifajiigpalhaaNb
import Derived.IntWalk
import Derived.Deep.RegionHeld3
import Derived.Test.YtbifajiigpalhaaProg
import Derived.Test.YtbifajiigpalhaaLs
import Derived.Outline
import Derived.StillTailTactics
import Derived.Deep.DeepCutAuto
import Derived.Deep.CutBlock
import Derived.Deep.LoopGhost
import Derived.Deep.QuietTactic
import Derived.BigQuiet
import Derived.Deep.RegionHeld3
import Derived.Deep.RegionLaw
set_option linter.unusedVariables false
set_option linter.unusedSimpArgs false
namespace Go.Proofs.Ytbifajiigpalhaa
open Go.RowKit
structure JobOk (zs : List Nd) : Prop where
  pos : 1 ≤ zs.length
  few : zs.length ≤ 12
  node : ∀ z ∈ zs, NodeOk zs.length z
def LightV (zs : List Nd) (w : World) (e : Ending) (w' : World) : Prop := ∃ r : Int, e = .returned (.int .i64 r) ∧ (r = 0 → JobOk zs) ∧ Below w.heap.size w w'
set_option maxRecDepth 100000 in
set_option maxHeartbeats 4000000 in
theorem light36 {W : World} (jv : Value) (zs : List Nd) (hx : JobX W jv zs) (w : World) (hk : Kept W w) : Calls Try.prog 36 #[.agg #[jv]] w (LightV zs w) := by
  obtain ⟨Aj, cj, hv⟩ := hx.job.form
  subst hv
  obtain ⟨N, hN⟩ : ∃ N, zs.length = N := ⟨_, rfl⟩
  have hcj := hx.job.1.caps.2
  have hj := Lib.hid hx.job
  have H := Lib.hid ((Hs.start w).alloc (.cells #[.slice Aj zs.length cj] 24))
  have TN := Lib.hid (fun z hz w hk => node38 (.slice Aj zs.length cj) zs z hx hz w hk)
  have TO := Lib.hid (fun w w0 R H hk h40 => order39 (.slice Aj zs.length cj) zs hx.job w w0 R H hk h40)
  have hfin : Hid (1 ≤ N → N ≤ 12 → (∀ z ∈ zs, NodeOk N z) → JobOk zs) := fun h1 h2 h3 => ⟨by omega, by omega, by rw [hN]; exact h3⟩
  rw [hN] at hcj hj H TN TO ⊢
  replace hN := Lib.hid hN
  replace hk := Lib.hid hk
  clear hx
  have hRET := Lib.hid H.out.tail.under_old
  rcases (show N = 0 ∨ (1 ≤ N ∧ 12 < N) ∨ (1 ≤ N ∧ N ≤ 12) by omega) with h | ⟨h, h'⟩ | ⟨h, h'⟩
  · subst h
    go_enter Try.func36, Try.ntmps36
    go_wp2_with fail
    go_ret
    exact ⟨_, rfl, (fun h => absurd h (by decide)), hRET.out⟩
  · have e0 : ((N : Int) == 0) = false := by rw [beq_eq_false_iff_ne]; omega
    have e1 : (12 : Int) < (N : Int) := by omega
    go_enter Try.func36, Try.ntmps36
    go_wp2_with fail
    go_ret
    exact ⟨_, rfl, (fun h => absurd h (by decide)), hRET.out⟩
  · have e0 : ((N : Int) == 0) = false := by rw [beq_eq_false_iff_ne]; omega
    have e1 : decide ((12 : Int) < (N : Int)) = false := by rw [decide_eq_false_iff_not]; omega
    have e2 : decide (12 < N) = false := by rw [decide_eq_false_iff_not]; omega
    have e3 : (N == 0) = false := by rw [beq_eq_false_iff_ne]; omega
    clear hRET
    go_enter Try.func36, Try.ntmps36
    go_wp2_with fail
    clear e0 e1 e2 e3
    generalize World.alloc w _ = w1 at H ⊢
    generalize w.heap.size = b at H ⊢
    go_loopg [3] N (fun k iv wr => ∃ (j : Nat), k + j = N ∧ iv = .int .i64 j ∧ Hid (∀ z ∈ zs.take j, NodeOk N z) ∧ Hid (Hs w wr [Blk b (.cells #[.slice Aj N cj] 24), Old w]))
    case atStart => exact ⟨0, rfl, rfl, (by show ∀ x ∈ _, _; intro x hx; cases hx), H⟩
    case round =>
      clear H
      obtain ⟨j, hg, rfl, hal, H⟩ := hrel
      have hjN : j ≤ N := by omega
      replace hg := Lib.hid hg
      have b0 : wr.cell? ⟨b, 0, none⟩ = some (.slice Aj N cj) := H.out.cellOf 0 rfl
      rcases Nat.lt_or_ge j N with hlt | hlt
      · have hj0 : (0 : Int) ≤ (j : Int) := by omega
        have hj1 : (j : Int) < (N : Int) := by omega
        have hw6 : IntKind.i64.wrap ((j : Int) + 1) = ((j + 1 : Nat) : Int) := by rw [IntWalk.i64_in _ (by omega)]; omega
        obtain ⟨z, hz⟩ : ∃ z, zs[j]? = some z := ⟨_, List.getElem?_eq_getElem (by have := hN.out; omega)⟩
        have hnx : Hid (NodeOk N z → ∀ y ∈ zs.take (j + 1), NodeOk N y) := fun h y hy => by
          rw [List.take_add_one, hz] at hy
          rcases List.mem_append.1 hy with hy | hy
          · exact hal.out y hy
          · have e : y = z := by simpa using hy
            rw [e]; exact h
        have Tz := TN.out z (List.mem_of_getElem? hz)
        have hk2 := hk.out.hs H.out.tail
        have hjw : JobR wr (.slice Aj N cj) zs := hj.out.step hk2
        obtain ⟨gj, oj, rfl⟩ := hjw.1.some_ (by rw [List.length_map, hN.out]; omega)
        have hcc := Lib.hid (fun w' (h : Hs w w' [Blk b (.cells #[.slice (some ⟨gj, oj, none⟩) N cj] 24), Old w]) => (show JobR w' (.slice (some ⟨gj, oj, none⟩) N cj) zs from hj.out.step (hk.out.hs h.tail)).cells hz)
        obtain ⟨⟨kd, ⟨sa, sn, sc⟩, pr, ⟨eo, en, ⟨ea, el, ec⟩⟩, ag, ⟨wk, ws, wl⟩⟩, ins⟩ := z
        dsimp only [Nd.kind, Nd.sl, Nd.par] at hcc
        unfold ndVal at Tz
        replace Tz : Hid (∀ w, Kept W w → Calls Try.prog 38 #[.agg #[.slice (some ⟨gj, oj, none⟩) N cj], .agg #[.int .i64 kd, .slice sa sn sc, .int .i64 pr, .int .i64 eo, .int .i64 en, .slice ea el ec, .int .i64 ag, .int .i64 wk, .int .i64 ws, .int .i64 wl]] w (NodeV N ((kd, (sa, sn, sc), pr, (eo, en, (ea, el, ec)), ag, (wk, ws, wl)), ins) w)) := Tz
        replace hk2 := Lib.hid hk2
        clear hz hjw
        have SS : Hid (∀ w', Hs w w' [Blk b (.cells #[.slice (some ⟨gj, oj, none⟩) N cj] 24), Old w] → w'.cell? ⟨b, 0, none⟩ = some (.slice (some ⟨gj, oj, none⟩) N cj) ∧ w'.cell? ⟨gj, oj + j * 10, none⟩ = some (.int .i64 kd) ∧ w'.cell? ⟨gj, oj + j * 10 + 1, none⟩ = some (.slice sa sn sc) ∧ w'.cell? ⟨gj, oj + j * 10 + 2, none⟩ = some (.int .i64 pr) ∧ w'.cell? ⟨gj, oj + j * 10 + 3, none⟩ = some (.int .i64 eo) ∧ w'.cell? ⟨gj, oj + j * 10 + 4, none⟩ = some (.int .i64 en) ∧ w'.cell? ⟨gj, oj + j * 10 + 5, none⟩ = some (.slice ea el ec) ∧ w'.cell? ⟨gj, oj + j * 10 + 6, none⟩ = some (.int .i64 ag) ∧ w'.cell? ⟨gj, oj + j * 10 + 7, none⟩ = some (.int .i64 wk) ∧ w'.cell? ⟨gj, oj + j * 10 + 8, none⟩ = some (.int .i64 ws) ∧ w'.cell? ⟨gj, oj + j * 10 + 9, none⟩ = some (.int .i64 wl)) := fun w' h => ⟨h.cellOf 0 rfl, hcc.out _ h⟩
        go_upto_region 6 with (fail)
        clear b0
        go_region_held3 (fun w' => w'.cell? ⟨b, 0, none⟩ = some (.slice (some ⟨gj, oj, none⟩) N cj) ∧ w'.cell? ⟨gj, oj + j * 10, none⟩ = some (.int .i64 kd) ∧ w'.cell? ⟨gj, oj + j * 10 + 1, none⟩ = some (.slice sa sn sc) ∧ w'.cell? ⟨gj, oj + j * 10 + 2, none⟩ = some (.int .i64 pr) ∧ w'.cell? ⟨gj, oj + j * 10 + 3, none⟩ = some (.int .i64 eo) ∧ w'.cell? ⟨gj, oj + j * 10 + 4, none⟩ = some (.int .i64 en) ∧ w'.cell? ⟨gj, oj + j * 10 + 5, none⟩ = some (.slice ea el ec) ∧ w'.cell? ⟨gj, oj + j * 10 + 6, none⟩ = some (.int .i64 ag) ∧ w'.cell? ⟨gj, oj + j * 10 + 7, none⟩ = some (.int .i64 wk) ∧ w'.cell? ⟨gj, oj + j * 10 + 8, none⟩ = some (.int .i64 ws) ∧ w'.cell? ⟨gj, oj + j * 10 + 9, none⟩ = some (.int .i64 wl))
          (first | exact SS.out _ H.out.drew | exact SS.out _ K1)
          (first | (go_at_call 38; refine (Tz.out _ (hk.out.hs H.out.drew.tail)).mono ?_; rintro e w5 ⟨r, rfl, hr, hb⟩; have hr := Lib.hid hr; have K1 := H.out.drew.below hb; clear hb))
        replace K1 := Lib.hid K1
        clear H SS hcc Tz hk2
        cases hr0 : (r != 0) with
        | true =>
          have hrn : Hid (r ≠ 0) := by show ¬ _; simpa using hr0
          go_wp2_with fail
          go_ret
          exact ⟨_, rfl, (fun h => absurd h hrn.out), K1.out.tail.under_old⟩
        | false =>
          have hrn : Hid (r = 0) := by show _ = _; simpa using hr0
          go_wp2_with fail
          go_roundg (N - (j + 1))
          case measure => have := hg.out; omega
          case rel => exact ⟨j + 1, by have := hg.out; omega, by go_num, hnx.out (hr.out hrn.out), K1⟩
      · have hj1 : decide ((j : Int) < (N : Int)) = false := by rw [decide_eq_false_iff_not]; omega
        have hj2 : decide (j < N) = false := by rw [decide_eq_false_iff_not]; omega
        have hall : Hid (∀ z ∈ zs, NodeOk N z) := by have h := hal.out; rwa [List.take_of_length_le (by rw [hN.out]; exact hlt)] at h
        clear hlt hal
        go_upto_region 9 with (fail)
        clear b0
        go_region_held3 (fun w' => w'.cell? ⟨b, 0, none⟩ = some (.slice Aj N cj))
          (first | exact H.out.drew.cellOf 0 rfl | exact K1.at1.cellOf 0 rfl)
          (first | (go_at_call 39; refine (TO.out _ w _ H.out.drew (fun w' h => hk.out.hs h.tail) (by omega)).mono ?_; rintro e w5 ⟨Ao, no, co, o, rfl, ho, K1⟩; have ho := Lib.hid ho))
        replace K1 := Lib.hid K1
        clear H
        rcases Nat.lt_or_ge no N with hno | hno
        · have e1 : (no : Int) < (N : Int) := by omega
          go_wp2_with fail
          go_ret
          exact ⟨_, rfl, (fun h => absurd h (by decide)), K1.out.tail.tail.under_old⟩
        · have e1 : decide ((no : Int) < (N : Int)) = false := by rw [decide_eq_false_iff_not]; omega
          have e2 : decide (no < N) = false := by rw [decide_eq_false_iff_not]; omega
          clear hno
          have h1' : Hid (1 ≤ N ∧ N ≤ 12) := ⟨h, h'⟩
          rw [e2]
          go_wp2_with fail
          go_ret
          exact ⟨_, rfl, (fun _ => hfin.out h1'.out.1 h1'.out.2 hall.out), K1.out.tail.tail.under_old⟩
end Go.Proofs.Ytbifajiigpalhaa

import Derived.Test.YtbifajiigpalhaaEb
import Derived.IntWalk
import Derived.WalkLawsBesides
import Derived.Test.YtbifajiigpalhaaProg
import Derived.Test.YtbifajiigpalhaaLs
import Derived.Outline
import Derived.StillTailTactics
import Derived.Deep.DeepCutAuto
import Derived.Deep.CutBlock
import Derived.Deep.LoopGhost
import Derived.Deep.QuietTactic
import Derived.BigQuiet
import Derived.Deep.RegionHeld3
import Derived.Deep.RegionLaw
set_option linter.unusedVariables false
set_option linter.unusedSimpArgs false
namespace Go.Proofs.Ytbifajiigpalhaa
open Go.RowKit
/-- A node that is taken. -/
structure NodeOk (N : Nat) (z : Nd) : Prop where
  par : 1 ≤ z.par ∧ z.par ≤ 4
  ins : ∀ k ∈ z.2, isN N k = true
  few : z.2.length ≤ 4
  src : z.kind = 1 ↔ z.2 = []
  slide : z.1.2.2.2.2.2.1 = 2 → 1 ≤ z.1.2.2.2.2.2.2.2
structure JobX (W : World) (jv : Value) (zs : List Nd) : Prop where
  job : JobR W jv zs
  ex : ∀ z ∈ zs, ExpR W z.1.2.2.2.1
def NodeV (N : Nat) (z : Nd) (w : World) (e : Ending) (w' : World) : Prop := ∃ r : Int, e = .returned (.int .i64 r) ∧ (r = 0 → NodeOk N z) ∧ Below w.heap.size w w'
def ndVal (z : Nd) : Value := .agg (EN.enc z.1).toArray
theorem win_ne (a b c : Int) (h : ¬ (a = 0 ∧ b = 0 ∧ c = 0)) : (a == 0 && b == 0 && c == 0) = false := by
  rw [Bool.eq_false_iff]
  intro h2
  simp only [Bool.and_eq_true, beq_iff_eq] at h2
  exact h ⟨h2.1.1, h2.1.2, h2.2⟩
theorem Kept.job {W w : World} {jv : Value} {zs : List Nd} (h : Kept W w) (H : JobR W jv zs) : JobR w jv zs := H.step h
set_option maxRecDepth 100000 in
set_option maxHeartbeats 16000000 in
theorem node38 {W : World} (jv : Value) (zs : List Nd) (z : Nd) (hx : JobX W jv zs) (hz : z ∈ zs) (w : World) (hk : Kept W w) : Calls Try.prog 38 #[.agg #[jv], ndVal z] w (NodeV zs.length z w) := by
  obtain ⟨Aj, cj, hv⟩ := hx.job.form
  subst hv
  have hexp := hx.ex z hz
  have hins0 := hx.job.2 z hz
  obtain ⟨⟨kd, ⟨sa, sn, sc⟩, pr, ⟨eo, en, ⟨ea, el, ec⟩⟩, ag, ⟨wk, ws, wl⟩⟩, ins⟩ := z
  dsimp only [Nd.sl] at hins0 hexp
  obtain ⟨rfl, hsc⟩ := hins0.caps
  obtain ⟨I, hI⟩ : ∃ I, ins.length = I := ⟨_, rfl⟩
  obtain ⟨z, hzz⟩ : ∃ z : Nd, ((kd, (sa, ins.length, sc), pr, (eo, en, (ea, el, ec)), ag, (wk, ws, wl)), ins) = z := ⟨_, rfl⟩
  have hok : Hid (∀ (h1 : 1 ≤ pr ∧ pr ≤ 4) (h2 : ∀ k ∈ ins, isN zs.length k = true) (h3 : ins.length ≤ 4) (h4 : kd = 1 ↔ ins = []) (h5 : wk = 2 → 1 ≤ wl), NodeOk zs.length z) := fun h1 h2 h3 h4 h5 => by rw [← hzz]; exact ⟨h1, h2, h3, h4, h5⟩
  have hval : ndVal z = .agg #[.int .i64 kd, .slice sa I sc, .int .i64 pr, .int .i64 eo, .int .i64 en, .slice ea el ec, .int .i64 ag, .int .i64 wk, .int .i64 ws, .int .i64 wl] := by rw [← hzz, ← hI]; rfl
  rw [hzz, hval]
  rw [hI] at hins0 hsc
  obtain ⟨N, hN⟩ : ∃ N, zs.length = N := ⟨_, rfl⟩
  have hcj := hx.job.1.caps.2
  have hj := Lib.hid hx.job
  rw [hN] at hcj hj hok ⊢
  have T40 := Lib.hid (fun w hk => check40 hexp w hk)
  have T41 := Lib.hid (fun w => zero41 (eo, en, (ea, el, ec)) w)
  unfold erv at T40 T41
  dsimp only at T40 T41
  have H := ((Hs.start w).alloc (.cells #[.slice Aj N cj] 24)).alloc (.cells #[.int .i64 kd, .slice sa I sc, .int .i64 pr, .int .i64 eo, .int .i64 en, .slice ea el ec, .int .i64 ag, .int .i64 wk, .int .i64 ws, .int .i64 wl] 54)
  rw [show (w.alloc (.cells #[.slice Aj N cj] 24)).heap.size = w.heap.size + 1 from Array.size_push ..] at H
  replace H := Lib.hid H
  replace hI := Lib.hid hI
  replace hN := Lib.hid hN
  replace hins0 := Lib.hid hins0
  replace hk := Lib.hid hk
  clear hexp hx hz hval hzz
  go_enter Try.func38, Try.ntmps38
  go_upto_region 1 with (fail)
  generalize World.alloc _ _ = w1 at H ⊢
  generalize w.heap.size + 1 = bn at H ⊢
  generalize w.heap.size = bj at H ⊢
  have c0 : w1.cell? ⟨bn, 0, none⟩ = some (.int .i64 kd) := H.out.cellOf 0 rfl
  have c1 : w1.cell? ⟨bn, 1, none⟩ = some (.slice sa I sc) := H.out.cellOf 1 rfl
  have c2 : w1.cell? ⟨bn, 2, none⟩ = some (.int .i64 pr) := H.out.cellOf 2 rfl
  have c3 : w1.cell? ⟨bn, 3, none⟩ = some (.int .i64 eo) := H.out.cellOf 3 rfl
  have c4 : w1.cell? ⟨bn, 4, none⟩ = some (.int .i64 en) := H.out.cellOf 4 rfl
  have c5 : w1.cell? ⟨bn, 5, none⟩ = some (.slice ea el ec) := H.out.cellOf 5 rfl
  have c6 : w1.cell? ⟨bn, 6, none⟩ = some (.int .i64 ag) := H.out.cellOf 6 rfl
  have c7 : w1.cell? ⟨bn, 7, none⟩ = some (.int .i64 wk) := H.out.cellOf 7 rfl
  have c8 : w1.cell? ⟨bn, 8, none⟩ = some (.int .i64 ws) := H.out.cellOf 8 rfl
  have c9 : w1.cell? ⟨bn, 9, none⟩ = some (.int .i64 wl) := H.out.cellOf 9 rfl
  rcases (show kd < 1 ∨ (1 ≤ kd ∧ 8 < kd) ∨ (1 ≤ kd ∧ kd ≤ 8) by omega) with h | ⟨h, h'⟩ | ⟨h, h'⟩
  · go_wp2_with fail
    go_ret
    exact ⟨_, rfl, (fun h => absurd h (by decide)), H.out.tail.tail.under_old⟩
  · have h1 : decide (kd < 1) = false := by rw [decide_eq_false_iff_not]; omega
    go_wp2_with fail
    go_ret
    exact ⟨_, rfl, (fun h => absurd h (by decide)), H.out.tail.tail.under_old⟩
  · have h1 : decide (kd < 1) = false := by rw [decide_eq_false_iff_not]; omega
    have h2 : decide (8 < kd) = false := by rw [decide_eq_false_iff_not]; omega
    have hkk : Hid (1 ≤ kd ∧ kd ≤ 8) := ⟨h, h'⟩
    clear h h'
    go_upto_block 0 with (fail)
    have hnil : Hid (ins = [] ↔ I = 0) := by
      show _ ↔ _
      rw [← hI.out]
      exact List.length_eq_zero_iff.symm
    have hRET := H.out.tail.tail.under_old
    replace hRET := Lib.hid hRET
    go_cut [] (fun wx => Hid (kd = 1 ↔ ins = []) ∧ Hid (I ≤ 4) ∧ wx = w1)
    case first =>
      cases hk1 : (kd == 1) with
      | true =>
        have hkd : kd = 1 := by simpa using hk1
        cases hI0 : ((I : Int) != 0) with
        | true =>
          clear hkd
          go_wp2_with fail
          go_ret
          exact ⟨_, rfl, (fun h => absurd h (by decide)), hRET.out⟩
        | false =>
          have hI2 : I = 0 := by have := bne_eq_false_iff_eq.1 hI0; omega
          have f1 : Hid (kd = 1 ↔ ins = []) := by show _ ↔ _; rw [hnil.out]; exact ⟨fun _ => hI2, fun _ => hkd⟩
          have f2 : Hid (I ≤ 4) := by show _ ≤ _; omega
          clear hkd hI2
          go_wp2_with fail
          go_meet
          case rel => exact ⟨f1, f2, rfl⟩
      | false =>
        have hkd : ¬ kd = 1 := by simpa using hk1
        cases hk5 : (kd == 5) with
        | true =>
          rcases (show I < 1 ∨ (1 ≤ I ∧ 4 < I) ∨ (1 ≤ I ∧ I ≤ 4) by omega) with h | ⟨h, h'⟩ | ⟨h, h'⟩
          · have e1 : (I : Int) < 1 := by omega
            clear h hkd
            go_wp2_with fail
            go_ret
            exact ⟨_, rfl, (fun h => absurd h (by decide)), hRET.out⟩
          · have e1 : decide ((I : Int) < 1) = false := by rw [decide_eq_false_iff_not]; omega
            have e2 : (4 : Int) < (I : Int) := by omega
            have e3 : decide (I < 1) = false := by rw [decide_eq_false_iff_not]; omega
            have e4 : (I == 0) = false := by rw [beq_eq_false_iff_ne]; omega
            have e5 : ¬ I = 0 := by omega
            clear h h' hkd
            go_wp2_with fail
            go_ret
            exact ⟨_, rfl, (fun h => absurd h (by decide)), hRET.out⟩
          · have e1 : decide ((I : Int) < 1) = false := by rw [decide_eq_false_iff_not]; omega
            have e2 : decide ((4 : Int) < (I : Int)) = false := by rw [decide_eq_false_iff_not]; omega
            have e5 : ¬ I = 0 := by omega
            have f1 : Hid (kd = 1 ↔ ins = []) := by show _ ↔ _; rw [hnil.out]; exact ⟨fun h => absurd h hkd, fun h => absurd h e5⟩
            have f2 : Hid (I ≤ 4) := h'
            clear h h' hkd
            go_wp2_with fail
            go_meet
            case rel => exact ⟨f1, f2, rfl⟩
        | false =>
          cases hI0 : ((I : Int) != 1) with
          | true =>
            clear hkd
            go_wp2_with fail
            go_ret
            exact ⟨_, rfl, (fun h => absurd h (by decide)), hRET.out⟩
          | false =>
            have hI2 : I = 1 := by have := bne_eq_false_iff_eq.1 hI0; omega
            have f1 : Hid (kd = 1 ↔ ins = []) := by show _ ↔ _; rw [hnil.out]; exact ⟨fun h => absurd h hkd, fun h => by omega⟩
            have f2 : Hid (I ≤ 4) := by show _ ≤ _; omega
            clear hkd hI2
            go_wp2_with fail
            go_meet
            case rel => exact ⟨f1, f2, rfl⟩
    case rest =>
      obtain ⟨hsrc, hI4, hw⟩ := hcut
      subst hw
      clear hRET hnil c0 c1 c2 c3 c4 c5 c6 c7 c8 c9
      have hI4' : I ≤ 4 := hI4.out
      go_wp2_with fail
      go_loopg [6] I (fun k iv wr => ∃ (j : Nat), k + j = I ∧ iv = .int .i64 j ∧ Hid (∀ x ∈ ins.take j, isN N x = true) ∧ Hid (Hs w wr [Blk bn (.cells #[.int .i64 kd, .slice sa I sc, .int .i64 pr, .int .i64 eo, .int .i64 en, .slice ea el ec, .int .i64 ag, .int .i64 wk, .int .i64 ws, .int .i64 wl] 54), Blk bj (.cells #[.slice Aj N cj] 24), Old w]))
      case atStart => exact ⟨0, rfl, rfl, (by show ∀ x ∈ _, _; intro x hx; cases hx), H⟩
      case round =>
        clear H
        obtain ⟨j, hg, rfl, hal, H⟩ := hrel
        have hjI : j ≤ I := by omega
        replace hg := Lib.hid hg
        rcases Nat.lt_or_ge j I with hlt | hlt
        · have hj0 : (0 : Int) ≤ (j : Int) := by omega
          have hj1 : (j : Int) < (I : Int) := by omega
          have hw6 : IntKind.i64.wrap ((j : Int) + 1) = ((j + 1 : Nat) : Int) := by rw [IntWalk.i64_in _ (by omega)]; omega
          have hk2 := hk.out.hs H.out.tail.tail
          have hr2 := hins0.out.step hk2
          obtain ⟨g, off, rfl⟩ := hr2.some_ (by have := hI.out; omega)
          obtain ⟨x, hx⟩ : ∃ r, ins[j]? = some r := ⟨_, List.getElem?_eq_getElem (by have := hI.out; omega)⟩
          have s0 : wr.cell? ⟨g, off + j, none⟩ = some (.int .i64 x) := by have := hr2.cell hx 0 rfl; simpa [Enc.num] using this
          have c1 : wr.cell? ⟨bn, 1, none⟩ = some (.slice (some ⟨g, off, none⟩) I sc) := H.out.cellOf 1 rfl
          have b0 : wr.cell? ⟨bj, 0, none⟩ = some (.slice Aj N cj) := H.out.at1.cellOf 0 rfl
          have hnx : Hid (isN N x = true → ∀ y ∈ ins.take (j + 1), isN N y = true) := fun h y hy => by
            rw [List.take_add_one, hx] at hy
            rcases List.mem_append.1 hy with hy | hy
            · exact hal.out y hy
            · have e : y = x := by simpa using hy
              rw [e]; exact h
          clear hx
          rcases (show x < 0 ∨ (0 ≤ x ∧ (N : Int) ≤ x) ∨ (0 ≤ x ∧ x < N) by omega) with h | ⟨h, h'⟩ | ⟨h, h'⟩
          · clear hr2 hk2
            go_wp2_with fail
            go_quiet (fail)
            go_wp2_with fail
            go_ret
            exact ⟨_, rfl, (fun h => absurd h (by decide)), (H.out.tail.tail.drewN nq).under_old⟩
          · have e1 : decide (x < 0) = false := by rw [decide_eq_false_iff_not]; omega
            clear hr2 hk2
            go_wp2_with fail
            go_quiet (fail)
            go_wp2_with fail
            go_ret
            exact ⟨_, rfl, (fun h => absurd h (by decide)), (H.out.tail.tail.drewN nq).under_old⟩
          · have e1 : decide (x < 0) = false := by rw [decide_eq_false_iff_not]; omega
            have e2 : decide ((N : Int) ≤ x) = false := by rw [decide_eq_false_iff_not]; omega
            have hxn : Hid (isN N x = true) := by show _ = _; unfold isN; rw [decide_eq_true h, decide_eq_true h']; rfl
            obtain ⟨m, rfl⟩ := Int.eq_ofNat_of_zero_le h
            have hj2 := hk2.job hj.out
            obtain ⟨gj, oj, rfl⟩ := hj2.1.some_ (by rw [List.length_map, hN.out]; omega)
            obtain ⟨y, hy⟩ : ∃ y, zs[m]? = some y := ⟨_, List.getElem?_eq_getElem (by rw [hN.out]; omega)⟩
            obtain ⟨d0, _⟩ := hj2.cells hy
            have e3 : decide (N ≤ m) = false := by rw [decide_eq_false_iff_not]; omega
            have hmz1 : (m : Int) < (N : Int) := h'
            clear hr2 hk2 hj2 hy
            cases hk8 : (Nd.kind y == 8) with
            | true =>
              go_wp2_with fail
              go_quiet (fail)
              go_wp2_with fail
              go_ret
              exact ⟨_, rfl, (fun h => absurd h (by decide)), (H.out.tail.tail.drewN nq).under_old⟩
            | false =>
              have H2 := Lib.hid (fun q => H.out.drewN q)
              go_wp2_with fail
              go_quiet (fail)
              go_wp2_with fail
              go_roundg (I - (j + 1))
              case measure => have := hg.out; omega
              case rel => exact ⟨j + 1, by have := hg.out; omega, by go_num, hnx.out hxn.out, Lib.hid (H2.out nq)⟩
        · have hj1 : decide ((j : Int) < (I : Int)) = false := by rw [decide_eq_false_iff_not]; omega
          have hj2 : decide (j < I) = false := by rw [decide_eq_false_iff_not]; omega
          have hins : Hid (∀ x ∈ ins, isN N x = true) := by have h := hal.out; rwa [List.take_of_length_le (by rw [hI.out]; exact hlt)] at h
          clear hlt hal
          go_upto_region 18 with (fail)
          have c0 : wr.cell? ⟨bn, 0, none⟩ = some (.int .i64 kd) := H.out.cellOf 0 rfl
          have c1 : wr.cell? ⟨bn, 1, none⟩ = some (.slice sa I sc) := H.out.cellOf 1 rfl
          have c2 : wr.cell? ⟨bn, 2, none⟩ = some (.int .i64 pr) := H.out.cellOf 2 rfl
          have c3 : wr.cell? ⟨bn, 3, none⟩ = some (.int .i64 eo) := H.out.cellOf 3 rfl
          have c4 : wr.cell? ⟨bn, 4, none⟩ = some (.int .i64 en) := H.out.cellOf 4 rfl
          have c5 : wr.cell? ⟨bn, 5, none⟩ = some (.slice ea el ec) := H.out.cellOf 5 rfl
          have c6 : wr.cell? ⟨bn, 6, none⟩ = some (.int .i64 ag) := H.out.cellOf 6 rfl
          have c7 : wr.cell? ⟨bn, 7, none⟩ = some (.int .i64 wk) := H.out.cellOf 7 rfl
          have c8 : wr.cell? ⟨bn, 8, none⟩ = some (.int .i64 ws) := H.out.cellOf 8 rfl
          have c9 : wr.cell? ⟨bn, 9, none⟩ = some (.int .i64 wl) := H.out.cellOf 9 rfl
          rcases (show kd = 1 ∨ kd = 2 ∨ kd = 3 ∨ kd = 4 ∨ kd = 5 ∨ kd = 6 ∨ kd = 7 ∨ kd = 8 by have := hkk.out; omega) with rfl | rfl | rfl | rfl | rfl | rfl | rfl | rfl
          · skip
            rcases (show pr < 1 ∨ (1 ≤ pr ∧ 4 < pr) ∨ (1 ≤ pr ∧ pr ≤ 4) by omega) with h | ⟨h, h'⟩ | ⟨h, h'⟩
            · skip
              go_wp2_with fail
              go_ret
              exact ⟨_, rfl, (fun h => absurd h (by decide)), H.out.tail.tail.under_old⟩
            · have h1 : decide (pr < 1) = false := by rw [decide_eq_false_iff_not]; omega
              go_wp2_with fail
              go_ret
              exact ⟨_, rfl, (fun h => absurd h (by decide)), H.out.tail.tail.under_old⟩
            have h1 : decide (pr < 1) = false := by rw [decide_eq_false_iff_not]; omega
            have h2 : decide (4 < pr) = false := by rw [decide_eq_false_iff_not]; omega
            have hpr : Hid (1 ≤ pr ∧ pr ≤ 4) := ⟨h, h'⟩
            clear h h'
            go_wp2_with fail
            refine (T41.out _).mono ?_
            rintro e w5 ⟨v, ⟨r, rfl⟩, rfl, hb⟩
            have H5 := Lib.hid (H.out.below hb)
            clear hb H c0 c1 c2 c3 c4 c5 c6 c7 c8 c9
            replace H := H5
            clear H5
            cases r with
            | false =>
              go_wp2_with fail
              go_ret
              exact ⟨_, rfl, (fun h => absurd h (by decide)), H.out.tail.tail.under_old⟩
            | true =>
              have c0 : w5.cell? ⟨bn, 0, none⟩ = some (.int .i64 1) := H.out.cellOf 0 rfl
              have c1 : w5.cell? ⟨bn, 1, none⟩ = some (.slice sa I sc) := H.out.cellOf 1 rfl
              have c2 : w5.cell? ⟨bn, 2, none⟩ = some (.int .i64 pr) := H.out.cellOf 2 rfl
              have c3 : w5.cell? ⟨bn, 3, none⟩ = some (.int .i64 eo) := H.out.cellOf 3 rfl
              have c4 : w5.cell? ⟨bn, 4, none⟩ = some (.int .i64 en) := H.out.cellOf 4 rfl
              have c5 : w5.cell? ⟨bn, 5, none⟩ = some (.slice ea el ec) := H.out.cellOf 5 rfl
              have c6 : w5.cell? ⟨bn, 6, none⟩ = some (.int .i64 ag) := H.out.cellOf 6 rfl
              have c7 : w5.cell? ⟨bn, 7, none⟩ = some (.int .i64 wk) := H.out.cellOf 7 rfl
              have c8 : w5.cell? ⟨bn, 8, none⟩ = some (.int .i64 ws) := H.out.cellOf 8 rfl
              have c9 : w5.cell? ⟨bn, 9, none⟩ = some (.int .i64 wl) := H.out.cellOf 9 rfl
              cases hag : (ag != 0) with
              | true =>
                go_wp2_with fail
                go_ret
                exact ⟨_, rfl, (fun h => absurd h (by decide)), H.out.tail.tail.under_old⟩
              | false =>
              skip
              go_wp2_with fail
              all_goals
                go_ret
                first | exact ⟨_, rfl, (fun h => absurd h (by decide)), H.out.tail.tail.under_old⟩ | exact ⟨_, rfl, (fun _ => hok.out hpr.out hins.out (by rw [hI.out]; exact hI4.out) hsrc.out (fun h => by omega)), H.out.tail.tail.under_old⟩
          · skip
            rcases (show pr < 1 ∨ (1 ≤ pr ∧ 4 < pr) ∨ (1 ≤ pr ∧ pr ≤ 4) by omega) with h | ⟨h, h'⟩ | ⟨h, h'⟩
            · skip
              go_wp2_with fail
              go_ret
              exact ⟨_, rfl, (fun h => absurd h (by decide)), H.out.tail.tail.under_old⟩
            · have h1 : decide (pr < 1) = false := by rw [decide_eq_false_iff_not]; omega
              go_wp2_with fail
              go_ret
              exact ⟨_, rfl, (fun h => absurd h (by decide)), H.out.tail.tail.under_old⟩
            have h1 : decide (pr < 1) = false := by rw [decide_eq_false_iff_not]; omega
            have h2 : decide (4 < pr) = false := by rw [decide_eq_false_iff_not]; omega
            have hpr : Hid (1 ≤ pr ∧ pr ≤ 4) := ⟨h, h'⟩
            clear h h'
            go_wp2_with fail
            refine (T40.out _ (hk.out.hs H.out.tail.tail)).mono ?_
            rintro e w5 ⟨v, ⟨r, rfl⟩, rfl, hb⟩
            have H5 := Lib.hid (H.out.below hb)
            clear hb H c0 c1 c2 c3 c4 c5 c6 c7 c8 c9
            replace H := H5
            clear H5
            cases hr0 : (r != 0) with
            | true =>
              go_wp2_with fail
              go_ret
              exact ⟨_, rfl, (fun h => absurd h (by decide)), H.out.tail.tail.under_old⟩
            | false =>
              have c0 : w5.cell? ⟨bn, 0, none⟩ = some (.int .i64 2) := H.out.cellOf 0 rfl
              have c1 : w5.cell? ⟨bn, 1, none⟩ = some (.slice sa I sc) := H.out.cellOf 1 rfl
              have c2 : w5.cell? ⟨bn, 2, none⟩ = some (.int .i64 pr) := H.out.cellOf 2 rfl
              have c3 : w5.cell? ⟨bn, 3, none⟩ = some (.int .i64 eo) := H.out.cellOf 3 rfl
              have c4 : w5.cell? ⟨bn, 4, none⟩ = some (.int .i64 en) := H.out.cellOf 4 rfl
              have c5 : w5.cell? ⟨bn, 5, none⟩ = some (.slice ea el ec) := H.out.cellOf 5 rfl
              have c6 : w5.cell? ⟨bn, 6, none⟩ = some (.int .i64 ag) := H.out.cellOf 6 rfl
              have c7 : w5.cell? ⟨bn, 7, none⟩ = some (.int .i64 wk) := H.out.cellOf 7 rfl
              have c8 : w5.cell? ⟨bn, 8, none⟩ = some (.int .i64 ws) := H.out.cellOf 8 rfl
              have c9 : w5.cell? ⟨bn, 9, none⟩ = some (.int .i64 wl) := H.out.cellOf 9 rfl
              cases hag : (ag != 0) with
              | true =>
                go_wp2_with fail
                go_ret
                exact ⟨_, rfl, (fun h => absurd h (by decide)), H.out.tail.tail.under_old⟩
              | false =>
              skip
              go_wp2_with fail
              all_goals
                go_ret
                first | exact ⟨_, rfl, (fun h => absurd h (by decide)), H.out.tail.tail.under_old⟩ | exact ⟨_, rfl, (fun _ => hok.out hpr.out hins.out (by rw [hI.out]; exact hI4.out) hsrc.out (fun h => by omega)), H.out.tail.tail.under_old⟩
          · skip
            rcases (show pr < 1 ∨ (1 ≤ pr ∧ 4 < pr) ∨ (1 ≤ pr ∧ pr ≤ 4) by omega) with h | ⟨h, h'⟩ | ⟨h, h'⟩
            · skip
              go_wp2_with fail
              go_ret
              exact ⟨_, rfl, (fun h => absurd h (by decide)), H.out.tail.tail.under_old⟩
            · have h1 : decide (pr < 1) = false := by rw [decide_eq_false_iff_not]; omega
              go_wp2_with fail
              go_ret
              exact ⟨_, rfl, (fun h => absurd h (by decide)), H.out.tail.tail.under_old⟩
            have h1 : decide (pr < 1) = false := by rw [decide_eq_false_iff_not]; omega
            have h2 : decide (4 < pr) = false := by rw [decide_eq_false_iff_not]; omega
            have hpr : Hid (1 ≤ pr ∧ pr ≤ 4) := ⟨h, h'⟩
            clear h h'
            go_wp2_with fail
            refine (T40.out _ (hk.out.hs H.out.tail.tail)).mono ?_
            rintro e w5 ⟨v, ⟨r, rfl⟩, rfl, hb⟩
            have H5 := Lib.hid (H.out.below hb)
            clear hb H c0 c1 c2 c3 c4 c5 c6 c7 c8 c9
            replace H := H5
            clear H5
            cases hr0 : (r != 0) with
            | true =>
              go_wp2_with fail
              go_ret
              exact ⟨_, rfl, (fun h => absurd h (by decide)), H.out.tail.tail.under_old⟩
            | false =>
              have c0 : w5.cell? ⟨bn, 0, none⟩ = some (.int .i64 3) := H.out.cellOf 0 rfl
              have c1 : w5.cell? ⟨bn, 1, none⟩ = some (.slice sa I sc) := H.out.cellOf 1 rfl
              have c2 : w5.cell? ⟨bn, 2, none⟩ = some (.int .i64 pr) := H.out.cellOf 2 rfl
              have c3 : w5.cell? ⟨bn, 3, none⟩ = some (.int .i64 eo) := H.out.cellOf 3 rfl
              have c4 : w5.cell? ⟨bn, 4, none⟩ = some (.int .i64 en) := H.out.cellOf 4 rfl
              have c5 : w5.cell? ⟨bn, 5, none⟩ = some (.slice ea el ec) := H.out.cellOf 5 rfl
              have c6 : w5.cell? ⟨bn, 6, none⟩ = some (.int .i64 ag) := H.out.cellOf 6 rfl
              have c7 : w5.cell? ⟨bn, 7, none⟩ = some (.int .i64 wk) := H.out.cellOf 7 rfl
              have c8 : w5.cell? ⟨bn, 8, none⟩ = some (.int .i64 ws) := H.out.cellOf 8 rfl
              have c9 : w5.cell? ⟨bn, 9, none⟩ = some (.int .i64 wl) := H.out.cellOf 9 rfl
              cases hag : (ag != 0) with
              | true =>
                go_wp2_with fail
                go_ret
                exact ⟨_, rfl, (fun h => absurd h (by decide)), H.out.tail.tail.under_old⟩
              | false =>
              skip
              go_wp2_with fail
              all_goals
                go_ret
                first | exact ⟨_, rfl, (fun h => absurd h (by decide)), H.out.tail.tail.under_old⟩ | exact ⟨_, rfl, (fun _ => hok.out hpr.out hins.out (by rw [hI.out]; exact hI4.out) hsrc.out (fun h => by omega)), H.out.tail.tail.under_old⟩
          · skip
            rcases (show pr < 1 ∨ (1 ≤ pr ∧ 4 < pr) ∨ (1 ≤ pr ∧ pr ≤ 4) by omega) with h | ⟨h, h'⟩ | ⟨h, h'⟩
            · skip
              go_wp2_with fail
              go_ret
              exact ⟨_, rfl, (fun h => absurd h (by decide)), H.out.tail.tail.under_old⟩
            · have h1 : decide (pr < 1) = false := by rw [decide_eq_false_iff_not]; omega
              go_wp2_with fail
              go_ret
              exact ⟨_, rfl, (fun h => absurd h (by decide)), H.out.tail.tail.under_old⟩
            have h1 : decide (pr < 1) = false := by rw [decide_eq_false_iff_not]; omega
            have h2 : decide (4 < pr) = false := by rw [decide_eq_false_iff_not]; omega
            have hpr : Hid (1 ≤ pr ∧ pr ≤ 4) := ⟨h, h'⟩
            clear h h'
            go_wp2_with fail
            refine (T40.out _ (hk.out.hs H.out.tail.tail)).mono ?_
            rintro e w5 ⟨v, ⟨r, rfl⟩, rfl, hb⟩
            have H5 := Lib.hid (H.out.below hb)
            clear hb H c0 c1 c2 c3 c4 c5 c6 c7 c8 c9
            replace H := H5
            clear H5
            cases hr0 : (r != 0) with
            | true =>
              go_wp2_with fail
              go_ret
              exact ⟨_, rfl, (fun h => absurd h (by decide)), H.out.tail.tail.under_old⟩
            | false =>
              have c0 : w5.cell? ⟨bn, 0, none⟩ = some (.int .i64 4) := H.out.cellOf 0 rfl
              have c1 : w5.cell? ⟨bn, 1, none⟩ = some (.slice sa I sc) := H.out.cellOf 1 rfl
              have c2 : w5.cell? ⟨bn, 2, none⟩ = some (.int .i64 pr) := H.out.cellOf 2 rfl
              have c3 : w5.cell? ⟨bn, 3, none⟩ = some (.int .i64 eo) := H.out.cellOf 3 rfl
              have c4 : w5.cell? ⟨bn, 4, none⟩ = some (.int .i64 en) := H.out.cellOf 4 rfl
              have c5 : w5.cell? ⟨bn, 5, none⟩ = some (.slice ea el ec) := H.out.cellOf 5 rfl
              have c6 : w5.cell? ⟨bn, 6, none⟩ = some (.int .i64 ag) := H.out.cellOf 6 rfl
              have c7 : w5.cell? ⟨bn, 7, none⟩ = some (.int .i64 wk) := H.out.cellOf 7 rfl
              have c8 : w5.cell? ⟨bn, 8, none⟩ = some (.int .i64 ws) := H.out.cellOf 8 rfl
              have c9 : w5.cell? ⟨bn, 9, none⟩ = some (.int .i64 wl) := H.out.cellOf 9 rfl
              cases hag : (ag != 0) with
              | true =>
                go_wp2_with fail
                go_ret
                exact ⟨_, rfl, (fun h => absurd h (by decide)), H.out.tail.tail.under_old⟩
              | false =>
              skip
              go_wp2_with fail
              all_goals
                go_ret
                first | exact ⟨_, rfl, (fun h => absurd h (by decide)), H.out.tail.tail.under_old⟩ | exact ⟨_, rfl, (fun _ => hok.out hpr.out hins.out (by rw [hI.out]; exact hI4.out) hsrc.out (fun h => by omega)), H.out.tail.tail.under_old⟩
          · skip
            rcases (show pr < 1 ∨ (1 ≤ pr ∧ 4 < pr) ∨ (1 ≤ pr ∧ pr ≤ 4) by omega) with h | ⟨h, h'⟩ | ⟨h, h'⟩
            · skip
              go_wp2_with fail
              go_ret
              exact ⟨_, rfl, (fun h => absurd h (by decide)), H.out.tail.tail.under_old⟩
            · have h1 : decide (pr < 1) = false := by rw [decide_eq_false_iff_not]; omega
              go_wp2_with fail
              go_ret
              exact ⟨_, rfl, (fun h => absurd h (by decide)), H.out.tail.tail.under_old⟩
            have h1 : decide (pr < 1) = false := by rw [decide_eq_false_iff_not]; omega
            have h2 : decide (4 < pr) = false := by rw [decide_eq_false_iff_not]; omega
            have hpr : Hid (1 ≤ pr ∧ pr ≤ 4) := ⟨h, h'⟩
            clear h h'
            go_wp2_with fail
            refine (T41.out _).mono ?_
            rintro e w5 ⟨v, ⟨r, rfl⟩, rfl, hb⟩
            have H5 := Lib.hid (H.out.below hb)
            clear hb H c0 c1 c2 c3 c4 c5 c6 c7 c8 c9
            replace H := H5
            clear H5
            cases r with
            | false =>
              go_wp2_with fail
              go_ret
              exact ⟨_, rfl, (fun h => absurd h (by decide)), H.out.tail.tail.under_old⟩
            | true =>
              have c0 : w5.cell? ⟨bn, 0, none⟩ = some (.int .i64 5) := H.out.cellOf 0 rfl
              have c1 : w5.cell? ⟨bn, 1, none⟩ = some (.slice sa I sc) := H.out.cellOf 1 rfl
              have c2 : w5.cell? ⟨bn, 2, none⟩ = some (.int .i64 pr) := H.out.cellOf 2 rfl
              have c3 : w5.cell? ⟨bn, 3, none⟩ = some (.int .i64 eo) := H.out.cellOf 3 rfl
              have c4 : w5.cell? ⟨bn, 4, none⟩ = some (.int .i64 en) := H.out.cellOf 4 rfl
              have c5 : w5.cell? ⟨bn, 5, none⟩ = some (.slice ea el ec) := H.out.cellOf 5 rfl
              have c6 : w5.cell? ⟨bn, 6, none⟩ = some (.int .i64 ag) := H.out.cellOf 6 rfl
              have c7 : w5.cell? ⟨bn, 7, none⟩ = some (.int .i64 wk) := H.out.cellOf 7 rfl
              have c8 : w5.cell? ⟨bn, 8, none⟩ = some (.int .i64 ws) := H.out.cellOf 8 rfl
              have c9 : w5.cell? ⟨bn, 9, none⟩ = some (.int .i64 wl) := H.out.cellOf 9 rfl
              cases hag : (ag != 0) with
              | true =>
                go_wp2_with fail
                go_ret
                exact ⟨_, rfl, (fun h => absurd h (by decide)), H.out.tail.tail.under_old⟩
              | false =>
              skip
              go_wp2_with fail
              all_goals
                go_ret
                first | exact ⟨_, rfl, (fun h => absurd h (by decide)), H.out.tail.tail.under_old⟩ | exact ⟨_, rfl, (fun _ => hok.out hpr.out hins.out (by rw [hI.out]; exact hI4.out) hsrc.out (fun h => by omega)), H.out.tail.tail.under_old⟩
          · skip
            rcases (show pr < 1 ∨ (1 ≤ pr ∧ 4 < pr) ∨ (1 ≤ pr ∧ pr ≤ 4) by omega) with h | ⟨h, h'⟩ | ⟨h, h'⟩
            · skip
              go_wp2_with fail
              go_ret
              exact ⟨_, rfl, (fun h => absurd h (by decide)), H.out.tail.tail.under_old⟩
            · have h1 : decide (pr < 1) = false := by rw [decide_eq_false_iff_not]; omega
              go_wp2_with fail
              go_ret
              exact ⟨_, rfl, (fun h => absurd h (by decide)), H.out.tail.tail.under_old⟩
            have h1 : decide (pr < 1) = false := by rw [decide_eq_false_iff_not]; omega
            have h2 : decide (4 < pr) = false := by rw [decide_eq_false_iff_not]; omega
            have hpr : Hid (1 ≤ pr ∧ pr ≤ 4) := ⟨h, h'⟩
            clear h h'
            go_wp2_with fail
            refine (T41.out _).mono ?_
            rintro e w5 ⟨v, ⟨r, rfl⟩, rfl, hb⟩
            have H5 := Lib.hid (H.out.below hb)
            clear hb H c0 c1 c2 c3 c4 c5 c6 c7 c8 c9
            replace H := H5
            clear H5
            cases r with
            | false =>
              go_wp2_with fail
              go_ret
              exact ⟨_, rfl, (fun h => absurd h (by decide)), H.out.tail.tail.under_old⟩
            | true =>
              have c0 : w5.cell? ⟨bn, 0, none⟩ = some (.int .i64 6) := H.out.cellOf 0 rfl
              have c1 : w5.cell? ⟨bn, 1, none⟩ = some (.slice sa I sc) := H.out.cellOf 1 rfl
              have c2 : w5.cell? ⟨bn, 2, none⟩ = some (.int .i64 pr) := H.out.cellOf 2 rfl
              have c3 : w5.cell? ⟨bn, 3, none⟩ = some (.int .i64 eo) := H.out.cellOf 3 rfl
              have c4 : w5.cell? ⟨bn, 4, none⟩ = some (.int .i64 en) := H.out.cellOf 4 rfl
              have c5 : w5.cell? ⟨bn, 5, none⟩ = some (.slice ea el ec) := H.out.cellOf 5 rfl
              have c6 : w5.cell? ⟨bn, 6, none⟩ = some (.int .i64 ag) := H.out.cellOf 6 rfl
              have c7 : w5.cell? ⟨bn, 7, none⟩ = some (.int .i64 wk) := H.out.cellOf 7 rfl
              have c8 : w5.cell? ⟨bn, 8, none⟩ = some (.int .i64 ws) := H.out.cellOf 8 rfl
              have c9 : w5.cell? ⟨bn, 9, none⟩ = some (.int .i64 wl) := H.out.cellOf 9 rfl
              rcases (show ag < 1 ∨ (1 ≤ ag ∧ 5 < ag) ∨ (1 ≤ ag ∧ ag ≤ 5) by omega) with h | ⟨h, h'⟩ | ⟨h, h'⟩
              · skip
                go_wp2_with fail
                go_ret
                exact ⟨_, rfl, (fun h => absurd h (by decide)), H.out.tail.tail.under_old⟩
              · have h3 : decide (ag < 1) = false := by rw [decide_eq_false_iff_not]; omega
                go_wp2_with fail
                go_ret
                exact ⟨_, rfl, (fun h => absurd h (by decide)), H.out.tail.tail.under_old⟩
              have h3 : decide (ag < 1) = false := by rw [decide_eq_false_iff_not]; omega
              have h4 : decide (5 < ag) = false := by rw [decide_eq_false_iff_not]; omega
              skip
              go_wp2_with fail
              all_goals
                go_ret
                first | exact ⟨_, rfl, (fun h => absurd h (by decide)), H.out.tail.tail.under_old⟩ | exact ⟨_, rfl, (fun _ => hok.out hpr.out hins.out (by rw [hI.out]; exact hI4.out) hsrc.out (fun h => by omega)), H.out.tail.tail.under_old⟩
          · skip
            rcases (show pr < 1 ∨ (1 ≤ pr ∧ 4 < pr) ∨ (1 ≤ pr ∧ pr ≤ 4) by omega) with h | ⟨h, h'⟩ | ⟨h, h'⟩
            · skip
              go_wp2_with fail
              go_ret
              exact ⟨_, rfl, (fun h => absurd h (by decide)), H.out.tail.tail.under_old⟩
            · have h1 : decide (pr < 1) = false := by rw [decide_eq_false_iff_not]; omega
              go_wp2_with fail
              go_ret
              exact ⟨_, rfl, (fun h => absurd h (by decide)), H.out.tail.tail.under_old⟩
            have h1 : decide (pr < 1) = false := by rw [decide_eq_false_iff_not]; omega
            have h2 : decide (4 < pr) = false := by rw [decide_eq_false_iff_not]; omega
            have hpr : Hid (1 ≤ pr ∧ pr ≤ 4) := ⟨h, h'⟩
            clear h h'
            go_wp2_with fail
            refine (T41.out _).mono ?_
            rintro e w5 ⟨v, ⟨r, rfl⟩, rfl, hb⟩
            have H5 := Lib.hid (H.out.below hb)
            clear hb H c0 c1 c2 c3 c4 c5 c6 c7 c8 c9
            replace H := H5
            clear H5
            cases r with
            | false =>
              go_wp2_with fail
              go_ret
              exact ⟨_, rfl, (fun h => absurd h (by decide)), H.out.tail.tail.under_old⟩
            | true =>
              have c0 : w5.cell? ⟨bn, 0, none⟩ = some (.int .i64 7) := H.out.cellOf 0 rfl
              have c1 : w5.cell? ⟨bn, 1, none⟩ = some (.slice sa I sc) := H.out.cellOf 1 rfl
              have c2 : w5.cell? ⟨bn, 2, none⟩ = some (.int .i64 pr) := H.out.cellOf 2 rfl
              have c3 : w5.cell? ⟨bn, 3, none⟩ = some (.int .i64 eo) := H.out.cellOf 3 rfl
              have c4 : w5.cell? ⟨bn, 4, none⟩ = some (.int .i64 en) := H.out.cellOf 4 rfl
              have c5 : w5.cell? ⟨bn, 5, none⟩ = some (.slice ea el ec) := H.out.cellOf 5 rfl
              have c6 : w5.cell? ⟨bn, 6, none⟩ = some (.int .i64 ag) := H.out.cellOf 6 rfl
              have c7 : w5.cell? ⟨bn, 7, none⟩ = some (.int .i64 wk) := H.out.cellOf 7 rfl
              have c8 : w5.cell? ⟨bn, 8, none⟩ = some (.int .i64 ws) := H.out.cellOf 8 rfl
              have c9 : w5.cell? ⟨bn, 9, none⟩ = some (.int .i64 wl) := H.out.cellOf 9 rfl
              rcases (show ag < 1 ∨ (1 ≤ ag ∧ 5 < ag) ∨ (1 ≤ ag ∧ ag ≤ 5) by omega) with h | ⟨h, h'⟩ | ⟨h, h'⟩
              · skip
                go_wp2_with fail
                go_ret
                exact ⟨_, rfl, (fun h => absurd h (by decide)), H.out.tail.tail.under_old⟩
              · have h3 : decide (ag < 1) = false := by rw [decide_eq_false_iff_not]; omega
                go_wp2_with fail
                go_ret
                exact ⟨_, rfl, (fun h => absurd h (by decide)), H.out.tail.tail.under_old⟩
              have h3 : decide (ag < 1) = false := by rw [decide_eq_false_iff_not]; omega
              have h4 : decide (5 < ag) = false := by rw [decide_eq_false_iff_not]; omega
              skip
              go_upto_region 35 with (fail)
              have H6 := Lib.hid (H.out.alloc (.cells #[.int .i64 wk, .int .i64 ws, .int .i64 wl] 52))
              clear H c0 c1 c2 c3 c4 c5 c6 c7 c8 c9
              generalize World.alloc w5 _ = w6 at H6 ⊢
              generalize w5.heap.size = bw at H6 ⊢
              have d0 : w6.cell? ⟨bw, 0, none⟩ = some (.int .i64 wk) := H6.out.cellOf 0 rfl
              have d1 : w6.cell? ⟨bw, 1, none⟩ = some (.int .i64 ws) := H6.out.cellOf 1 rfl
              have d2 : w6.cell? ⟨bw, 2, none⟩ = some (.int .i64 wl) := H6.out.cellOf 2 rfl
              rcases (show wk < 1 ∨ (1 ≤ wk ∧ 3 < wk) ∨ (1 ≤ wk ∧ wk ≤ 3) by omega) with k1 | ⟨k1, k2⟩ | ⟨k1, k2⟩
              · skip
                go_wp2_with fail
                go_ret
                exact ⟨_, rfl, (fun h => absurd h (by decide)), H6.out.tail.tail.tail.under_old⟩
              · have k3 : decide (wk < 1) = false := by rw [decide_eq_false_iff_not]; omega
                go_wp2_with fail
                go_ret
                exact ⟨_, rfl, (fun h => absurd h (by decide)), H6.out.tail.tail.tail.under_old⟩
              have k3 : decide (wk < 1) = false := by rw [decide_eq_false_iff_not]; omega
              have k4 : decide (3 < wk) = false := by rw [decide_eq_false_iff_not]; omega
              rcases (show ws < 1 ∨ (1 ≤ ws ∧ 68719476736 < ws) ∨ (1 ≤ ws ∧ ws ≤ 68719476736) by omega) with k5 | ⟨k5, k6⟩ | ⟨k5, k6⟩
              · skip
                go_wp2_with fail
                go_ret
                exact ⟨_, rfl, (fun h => absurd h (by decide)), H6.out.tail.tail.tail.under_old⟩
              · have k7 : decide (ws < 1) = false := by rw [decide_eq_false_iff_not]; omega
                go_wp2_with fail
                go_ret
                exact ⟨_, rfl, (fun h => absurd h (by decide)), H6.out.tail.tail.tail.under_old⟩
              have k7 : decide (ws < 1) = false := by rw [decide_eq_false_iff_not]; omega
              have k8 : decide (68719476736 < ws) = false := by rw [decide_eq_false_iff_not]; omega
              cases hwk : (wk == 2) with
              | true =>
                have hwk2 : (wk != 2) = false := by rw [bne_eq_false_iff_eq]; simpa using hwk
                rcases (show wl < 1 ∨ (1 ≤ wl ∧ 68719476736 < wl) ∨ (1 ≤ wl ∧ wl ≤ 68719476736) by omega) with k5 | ⟨k9, k10⟩ | ⟨k9, k10⟩
                · skip
                  go_wp2_with fail
                  go_ret
                  exact ⟨_, rfl, (fun h => absurd h (by decide)), H6.out.tail.tail.tail.under_old⟩
                · have k11 : decide (wl < 1) = false := by rw [decide_eq_false_iff_not]; omega
                  go_wp2_with fail
                  go_ret
                  exact ⟨_, rfl, (fun h => absurd h (by decide)), H6.out.tail.tail.tail.under_old⟩
                have k11 : decide (wl < 1) = false := by rw [decide_eq_false_iff_not]; omega
                have k12 : decide (68719476736 < wl) = false := by rw [decide_eq_false_iff_not]; omega
                have k9' := Lib.hid k9
                go_wp2_with fail
                go_ret
                exact ⟨_, rfl, (fun _ => hok.out hpr.out hins.out (by rw [hI.out]; exact hI4.out) hsrc.out (fun _ => k9'.out)), H6.out.tail.tail.tail.under_old⟩
              | false =>
                have hwk2 : (wk != 2) = true := by rw [bne_iff_ne]; simpa using hwk
                have hwk3 : Hid (¬ wk = 2) := by show ¬ _; simpa using hwk
                cases hwl : (wl != 0) with
                | true =>
                  go_wp2_with fail
                  go_ret
                  exact ⟨_, rfl, (fun h => absurd h (by decide)), H6.out.tail.tail.tail.under_old⟩
                | false =>
                  go_wp2_with fail
                  go_ret
                  exact ⟨_, rfl, (fun _ => hok.out hpr.out hins.out (by rw [hI.out]; exact hI4.out) hsrc.out (fun h => absurd h hwk3.out)), H6.out.tail.tail.tail.under_old⟩
          · skip
            rcases (show pr < 1 ∨ (1 ≤ pr ∧ 4 < pr) ∨ (1 ≤ pr ∧ pr ≤ 4) by omega) with h | ⟨h, h'⟩ | ⟨h, h'⟩
            · skip
              go_wp2_with fail
              go_ret
              exact ⟨_, rfl, (fun h => absurd h (by decide)), H.out.tail.tail.under_old⟩
            · have h1 : decide (pr < 1) = false := by rw [decide_eq_false_iff_not]; omega
              go_wp2_with fail
              go_ret
              exact ⟨_, rfl, (fun h => absurd h (by decide)), H.out.tail.tail.under_old⟩
            have h1 : decide (pr < 1) = false := by rw [decide_eq_false_iff_not]; omega
            have h2 : decide (4 < pr) = false := by rw [decide_eq_false_iff_not]; omega
            have hpr : Hid (1 ≤ pr ∧ pr ≤ 4) := ⟨h, h'⟩
            clear h h'
            go_wp2_with fail
            refine (T41.out _).mono ?_
            rintro e w5 ⟨v, ⟨r, rfl⟩, rfl, hb⟩
            have H5 := Lib.hid (H.out.below hb)
            clear hb H c0 c1 c2 c3 c4 c5 c6 c7 c8 c9
            replace H := H5
            clear H5
            cases r with
            | false =>
              go_wp2_with fail
              go_ret
              exact ⟨_, rfl, (fun h => absurd h (by decide)), H.out.tail.tail.under_old⟩
            | true =>
              have c0 : w5.cell? ⟨bn, 0, none⟩ = some (.int .i64 8) := H.out.cellOf 0 rfl
              have c1 : w5.cell? ⟨bn, 1, none⟩ = some (.slice sa I sc) := H.out.cellOf 1 rfl
              have c2 : w5.cell? ⟨bn, 2, none⟩ = some (.int .i64 pr) := H.out.cellOf 2 rfl
              have c3 : w5.cell? ⟨bn, 3, none⟩ = some (.int .i64 eo) := H.out.cellOf 3 rfl
              have c4 : w5.cell? ⟨bn, 4, none⟩ = some (.int .i64 en) := H.out.cellOf 4 rfl
              have c5 : w5.cell? ⟨bn, 5, none⟩ = some (.slice ea el ec) := H.out.cellOf 5 rfl
              have c6 : w5.cell? ⟨bn, 6, none⟩ = some (.int .i64 ag) := H.out.cellOf 6 rfl
              have c7 : w5.cell? ⟨bn, 7, none⟩ = some (.int .i64 wk) := H.out.cellOf 7 rfl
              have c8 : w5.cell? ⟨bn, 8, none⟩ = some (.int .i64 ws) := H.out.cellOf 8 rfl
              have c9 : w5.cell? ⟨bn, 9, none⟩ = some (.int .i64 wl) := H.out.cellOf 9 rfl
              cases hag : (ag != 0) with
              | true =>
                go_wp2_with fail
                go_ret
                exact ⟨_, rfl, (fun h => absurd h (by decide)), H.out.tail.tail.under_old⟩
              | false =>
              skip
              go_wp2_with fail
              all_goals
                go_ret
                first | exact ⟨_, rfl, (fun h => absurd h (by decide)), H.out.tail.tail.under_old⟩ | exact ⟨_, rfl, (fun _ => hok.out hpr.out hins.out (by rw [hI.out]; exact hI4.out) hsrc.out (fun h => by omega)), H.out.tail.tail.under_old⟩
end Go.Proofs.Ytbifajiigpalhaa

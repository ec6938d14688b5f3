import Derived.Test.YtbifajiigpalhaaEb
import Derived.Test.YtbifajiigpalhaaPa
import Derived.IntWalk
import Derived.Laws.MakeOwn
import Derived.Test.YtbifajiigpalhaaProg
import Derived.Test.YtbifajiigpalhaaLs
import Derived.Outline
import Derived.StillTailTactics
import Derived.Deep.DeepCutAuto
import Derived.Deep.CutBlock
import Derived.Deep.LoopGhost
import Derived.Deep.QuietTactic
import Derived.BigQuiet
import Derived.Deep.RegionHeld3
import Derived.Deep.RegionLaw
set_option linter.unusedVariables false
set_option linter.unusedSimpArgs false
namespace Go.Proofs.Ytbifajiigpalhaa
open Go.RowKit
def cntF (D : List Bool) : Nat := D.countP (fun b => !b)
theorem cntF_rep (N : Nat) : cntF (List.replicate N false) = N := by unfold cntF; simp [List.countP_replicate]
theorem cntF_set (D : List Bool) (i : Nat) (h : D[i]? = some false) : cntF (D.set i true) + 1 = cntF D := by
  unfold cntF
  induction D generalizing i with
  | nil => simp at h
  | cons a l ih =>
    cases i with
    | zero =>
      simp only [List.getElem?_cons_zero, Option.some.injEq] at h
      subst h
      simp
    | succ i =>
      simp only [List.getElem?_cons_succ] at h
      have := ih i h
      rw [List.set_cons_succ, List.countP_cons, List.countP_cons]
      omega
theorem infoB : (Try.prog.info? 4).map (fun i => (i.zero, i.size, i.bytes)) = some (some (.bool false), 1, 1) := by kernel_rfl
def OrdP (N : Nat) (w0 : World) (R : List HP) (e : Ending) (w' : World) : Prop := ∃ A n c o, e = .returned (.slice A n c) ∧ (o.length = n ∧ n ≤ 40 ∧ ∀ x ∈ o, isN N x = true) ∧ Hs w0 w' (Ls (Enc.num .i64) 3 (.slice A n c) o :: R)
set_option maxRecDepth 100000 in
set_option maxHeartbeats 4000000 in
theorem order39 {W : World} (jv : Value) (zs : List Nd) (hx : JobR W jv zs) (w w0 : World) (R : List HP) (H : Hs w0 w R) (hk : ∀ w', Hs w0 w' R → Kept W w') (hN40 : zs.length ≤ 40) :
    Calls Try.prog 39 #[.agg #[jv]] w (OrdP zs.length w0 R) := by
  obtain ⟨Aj, cj, hv⟩ := hx.form
  subst hv
  obtain ⟨N, hN⟩ : ∃ N, zs.length = N := ⟨_, rfl⟩
  have hcj := hx.1.caps.2
  have hj := Lib.hid hx
  rw [hN] at hcj hj hN40 ⊢
  have K := Lib.hid (H.alloc (.cells #[.slice Aj N cj] 24))
  replace hN := Lib.hid hN
  replace hk := Lib.hid hk
  clear hx H
  have hmk : ∀ w, (Instr.makeSlice 47 (.int .i64 (N : Int)) (.int .i64 (N : Int))).run Try.prog w = .ok (.slice (some ⟨w.heap.size, 0, none⟩) N N) (w.alloc (.cells (madeCells #[.bool false] N) 4)) := run_make_row' (P := Try.prog) 47 4 (.bool false) 1 Try.underlying47 infoB rfl .i64 .i64 N (by omega) (by omega)
  go_enter Try.func39, Try.ntmps39
  go_upto_region 1 with (fail)
  generalize World.alloc w _ = w1 at K ⊢
  generalize w.heap.size = b at K ⊢
  have b0 : w1.cell? ⟨b, 0, none⟩ = some (.slice Aj N cj) := K.out.cellOf 0 rfl
  go_wp2_with fail
  have K2 := Lib.hid ((K.out.ls_made (E := Enc.flag) 4 false (.bool false) rfl N (by omega)).ls_nil (Enc.num .i64) 3)
  clear K b0 hmk
  generalize World.alloc w1 _ = w2 at K2 ⊢
  generalize w1.heap.size = gd at K2 ⊢
  go_loopg [4] N (fun k ov wr => ∃ (D : List Bool) (o : List Int) (A : Option Addr) (n c : Nat), ov = .slice A n c ∧ n + k ≤ N ∧ Hid (cntF D = k) ∧ Hid (D.length = N) ∧ Hid (o.length = n) ∧ Hid (∀ x ∈ o, isN N x = true) ∧
    Hid (Hs w0 wr (Ls (Enc.num .i64) 3 (.slice A n c) o :: Ls Enc.flag 4 (.slice (some ⟨gd, 0, none⟩) N N) D :: Blk b (.cells #[.slice Aj N cj] 24) :: R)))
  case atStart => exact ⟨_, [], none, 0, 0, rfl, by omega, cntF_rep N, List.length_replicate, rfl, (by show ∀ x ∈ _, _; intro x hx; cases hx), K2⟩
  case round =>
    clear K2
    obtain ⟨D, o, A, n, c, rfl, hnk, hcnt, hD, ho, hal, K⟩ := hrel
    have b0 : wr.cell? ⟨b, 0, none⟩ = some (.slice Aj N cj) := K.out.at2.cellOf 0 rfl
    have hw5 : IntKind.i64.wrap ((N : Int) - 1) = (N : Int) - 1 := IntWalk.i64_in _ (by omega)
    go_wp2_with fail
    go_loopg [5, 6] (N + 1) (fun k nv iv wx => ∃ (z x : Int), z + 2 = k ∧ -1 ≤ z ∧ z < N ∧ iv = .int .i64 z ∧ nv = .int .i64 x ∧ Hid (x = -1 ∨ (0 ≤ x ∧ D[x.toNat]? = some false)) ∧ Hid (wx = wr))
    case atStart => exact ⟨(N : Int) - 1, -1, by omega, by omega, by omega, by first | rfl | rw [hw5], rfl, .inl rfl, Lib.hid rfl⟩
    case round =>
      obtain ⟨z, x, hzk, hz1, hzN, rfl, rfl, hxx, hw0⟩ := hrel
      have hw0 := hw0.out
      subst hw0
      replace hzk := Lib.hid hzk
      rcases (show 0 ≤ z ∨ z < 0 by omega) with hz | hz
      · obtain ⟨m, rfl⟩ := Int.eq_ofNat_of_zero_le hz
        have hmN : m < N := by omega
        obtain ⟨y, hy⟩ : ∃ y, D[m]? = some y := ⟨_, List.getElem?_eq_getElem (by rw [hD.out]; exact hmN)⟩
        have s0 : wr.cell? ⟨gd, m, none⟩ = some (.bool y) := by have := K.out.at1.ls_rd.cell hy 0 rfl; simpa [Enc.flag] using this
        have hw7 : IntKind.i64.wrap ((m : Int) - 1) = (m : Int) - 1 := IntWalk.i64_in _ (by omega)
        have hkw := hk.out wr K.out.tail.tail.tail
        have hjw : JobR wr (.slice Aj N cj) zs := hj.out.step hkw
        obtain ⟨gj, oj, rfl⟩ := hjw.1.some_ (by rw [List.length_map, hN.out]; omega)
        obtain ⟨⟨⟨kd, ⟨sa, sn, sc⟩, pr, ⟨eo, en, ⟨ea, el, ec⟩⟩, ag, ⟨wk, ws, wl⟩⟩, ins⟩, hzm⟩ : ∃ z, zs[m]? = some z := ⟨_, List.getElem?_eq_getElem (by rw [hN.out]; exact hmN)⟩
        obtain ⟨_, d1, _⟩ := hjw.cells hzm
        have hins := hjw.2 _ (List.mem_of_getElem? hzm)
        dsimp only [Nd.sl] at d1 hins
        obtain ⟨rfl, hsc⟩ := hins.caps
        obtain ⟨I, hI⟩ : ∃ I, ins.length = I := ⟨_, rfl⟩
        rw [hI] at d1 hins hsc
        replace hI := Lib.hid hI
        replace hins := Lib.hid hins
        replace hy := Lib.hid hy
        clear hjw hkw hzm
        go_wp2_with fail
        go_loopg [7, 8] I (fun k ov jv wx => ∃ (j : Nat) (ok : Bool), k + j = I ∧ jv = .int .i64 j ∧ ov = .bool ok ∧ Hid (ok = true → y = false) ∧ Hid (wx = wr))
        case atStart => exact ⟨0, !y, rfl, rfl, rfl, (by show _ → _; cases y <;> simp), Lib.hid rfl⟩
        case round =>
          obtain ⟨j, ok, hjI, rfl, rfl, hoky, hw1⟩ := hrel
          have hw1 := hw1.out
          subst hw1
          have hjI2 : j ≤ I := by omega
          replace hjI := Lib.hid hjI
          rcases Nat.lt_or_ge j I with hlt | hlt
          · have hj0 : (0 : Int) ≤ (j : Int) := by omega
            have hj1 : (j : Int) < (I : Int) := by omega
            have hw6 : IntKind.i64.wrap ((j : Int) + 1) = ((j + 1 : Nat) : Int) := by rw [IntWalk.i64_in _ (by omega)]; omega
            obtain ⟨g, off, rfl⟩ := hins.out.some_ (by have := hI.out; omega)
            obtain ⟨v, hv⟩ : ∃ r, ins[j]? = some r := ⟨_, List.getElem?_eq_getElem (by have := hI.out; omega)⟩
            have s1 : wr.cell? ⟨g, off + j, none⟩ = some (.int .i64 v) := by have := hins.out.cell hv 0 rfl; simpa [Enc.num] using this
            clear hv
            cases ok with
            | false =>
              go_wp2_with fail
              go_roundg (I - (j + 1))
              case measure => have := hjI.out; omega
              case rel => exact ⟨j + 1, false, by have := hjI.out; omega, by go_num, rfl, hoky, Lib.hid rfl⟩
            | true =>
              rcases (show v < 0 ∨ (0 ≤ v ∧ (N : Int) ≤ v) ∨ (0 ≤ v ∧ v < N) by omega) with h | ⟨h, h'⟩ | ⟨h, h'⟩
              · have e1 : decide (0 ≤ v) = false := by rw [decide_eq_false_iff_not]; omega
                clear h
                go_wp2_with fail
                go_roundg (I - (j + 1))
                case measure => have := hjI.out; omega
                case rel => exact ⟨j + 1, false, by have := hjI.out; omega, by go_num, rfl, (fun h => by cases h), Lib.hid rfl⟩
              · have e1 : decide (v < (N : Int)) = false := by rw [decide_eq_false_iff_not]; omega
                clear h'
                go_wp2_with fail
                go_roundg (I - (j + 1))
                case measure => have := hjI.out; omega
                case rel => exact ⟨j + 1, false, by have := hjI.out; omega, by go_num, rfl, (fun h => by cases h), Lib.hid rfl⟩
              · obtain ⟨q, rfl⟩ := Int.eq_ofNat_of_zero_le h
                obtain ⟨u, hu⟩ : ∃ y, D[q]? = some y := ⟨_, List.getElem?_eq_getElem (by rw [hD.out]; omega)⟩
                have s2 : wr.cell? ⟨gd, q, none⟩ = some (.bool u) := by have := K.out.at1.ls_rd.cell hu 0 rfl; simpa [Enc.flag] using this
                clear hu
                go_wp2_with fail
                go_roundg (I - (j + 1))
                case measure => have := hjI.out; omega
                case rel => exact ⟨j + 1, u, by have := hjI.out; omega, by go_num, rfl, (fun _ => by first | exact hoky.out rfl | exact hoky.out trivial), Lib.hid rfl⟩
          · have hj1 : decide ((j : Int) < (I : Int)) = false := by rw [decide_eq_false_iff_not]; omega
            have hj2 : decide (j < I) = false := by rw [decide_eq_false_iff_not]; omega
            clear hlt
            cases ok with
            | false =>
              go_wp2_with fail
              go_roundg (m + 1)
              case measure => have := hzk.out; omega
              case rel => exact ⟨(m : Int) - 1, x, by omega, by omega, by omega, by first | rfl | rw [hw7], rfl, hxx, Lib.hid rfl⟩
            | true =>
              have hm2 : Hid ((m : Int) = -1 ∨ (0 ≤ (m : Int) ∧ D[(m : Int).toNat]? = some false)) := .inr ⟨by omega, by rw [Int.toNat_natCast, hy.out]; congr 1; first | exact hoky.out rfl | exact hoky.out trivial⟩
              go_wp2_with fail
              go_roundg (m + 1)
              case measure => have := hzk.out; omega
              case rel => exact ⟨(m : Int) - 1, m, by omega, by omega, by omega, by first | rfl | rw [hw7], rfl, hm2, Lib.hid rfl⟩
      · have hz0 : decide (0 ≤ z) = false := by rw [decide_eq_false_iff_not]; omega
        clear hz
        rcases hxx.out with rfl | ⟨hx0, hx1⟩
        · go_wp2_with fail
          go_ret
          exact ⟨A, n, c, o, rfl, ⟨ho.out, by omega, hal.out⟩, K.out.at1.tail.at1.tail⟩
        · obtain ⟨m, rfl⟩ := Int.eq_ofNat_of_zero_le hx0
          rw [Int.toNat_natCast] at hx1
          have hmN : m < N := by have := (List.getElem?_eq_some_iff.1 hx1).1; rw [hD.out] at this; exact this
          have hcs := Lib.hid (cntF_set D m hx1)
          have hm0 : decide ((m : Int) < 0) = false := by rw [decide_eq_false_iff_not]; omega
          have hm1 : (m : Int) < (N : Int) := by omega
          have s0 : wr.cell? ⟨gd, m, none⟩ = some (.bool false) := by have := K.out.at1.ls_rd.cell hx1 0 rfl; simpa [Enc.flag] using this
          have f0 := K.out.at1.ls_frozen m
          have K2 := Lib.hid (K.out.at1.ls_set0 rfl m hmN true (.bool true) rfl).at1
          have hn40 : n ≤ 40 := by omega
          clear hx1 K
          go_upto_region 18 with (fail)
          generalize World.setCell wr _ _ = w5 at K2 ⊢
          go_wp2_with (at_builtin; refine wpList_append1N (E := Enc.num .i64) n ho.out rfl (.tmp 72) (.tmp 74) 34 rfl 3 _ 1 8 Try.underlying34 infoI rfl (by decide) (by decide) rfl rfl rfl (by simp) K2.out (m : Int) (by omega) ?_)
          intro A5 c5 w6 K4
          replace K4 := Lib.hid K4
          clear K2
          go_wp2_with fail
          go_roundg (cntF (D.set m true))
          case measure => have := hcs.out; have := hcnt.out; omega
          case rel => exact ⟨D.set m true, o ++ [(m : Int)], A5, n + 1, c5, by first | rfl | simp, by have := hcs.out; have := hcnt.out; omega, Lib.hid rfl, by show _ = _; rw [List.length_set]; exact hD.out, by show _ = _; rw [List.length_append, ho.out]; rfl, (by
            show ∀ x ∈ _, _
            intro x hx
            rcases List.mem_append.1 hx with hx | hx
            · exact hal.out x hx
            · have e : x = (m : Int) := by simpa using hx
              rw [e]
              unfold isN
              rw [decide_eq_true (show (0 : Int) ≤ (m : Int) by omega), decide_eq_true hm1]
              rfl), K4⟩
end Go.Proofs.Ytbifajiigpalhaa

import Derived.Test.YtbifajiigpalhaaKn
import Derived.Test.YtbifajiigpalhaaSp
import Derived.Test.YtbifajiigpalhaaPn
import Derived.IntWalk
import Derived.Laws.MakeOwn
import Derived.Test.YtbifajiigpalhaaProg
import Derived.Test.YtbifajiigpalhaaLs
import Derived.Outline
import Derived.StillTailTactics
import Derived.Deep.DeepCutAuto
import Derived.Deep.CutBlock
import Derived.Deep.LoopGhost
import Derived.Deep.QuietTactic
import Derived.BigQuiet
import Derived.Deep.RegionHeld3
import Derived.Deep.RegionLaw
set_option linter.unusedVariables false
set_option linter.unusedSimpArgs false
namespace Go.Proofs.Ytbifajiigpalhaa
open Go.RowKit
/-- leathelp.Place. -/
theorem place26 (n m : Int) (w : World) (hm : 0 < m) (hm2 : m ≤ 1000000) : Calls Try.prog 26 #[.int .i64 n, .int .i64 m] w fun e w' => e = .returned (.int .i64 (n % m)) ∧ w = w' := by
  have h1 := Int.tmod_lt_of_pos n hm
  have h2 := Int.lt_tmod_of_pos n hm
  have hz : m ≠ 0 := by omega
  have hz0 : (m == 0) = false := by rw [beq_eq_false_iff_ne]; exact hz
  rcases Int.lt_or_le (n.tmod m) 0 with h | h
  · have e1 := Lib.hid (tmod_up n m hm h)
    go_enter Try.func26, Try.ntmps26
    go_wp2_with fail
    go_ret
    rw [← e1.out]
    exact ⟨rfl, rfl⟩
  · have e1 := Lib.hid (tmod_in n m hm h)
    go_enter Try.func26, Try.ntmps26
    go_wp2_with fail
    go_ret
    rw [← e1.out]
    exact ⟨rfl, rfl⟩
set_option maxRecDepth 100000 in
set_option maxHeartbeats 4000000 in
theorem planspreads_walk (fr p0 : Int) (w : World) (hk : (Lit.int .i64 fr).wf = true) (hp : (Lit.int .i64 p0).wf = true) : Calls Try.prog 7 #[.int .i64 fr, .int .i64 p0] w fun e w' => e = .returned (.bool true) ∧ Below w.heap.size w w' := by
  clear hk hp
  obtain ⟨m, hm⟩ : ∃ m : Nat, p0 % 4 = (m : Int) := ⟨(p0 % 4).toNat, by omega⟩
  obtain ⟨P, hP⟩ : ∃ P, P = m + 1 := ⟨_, rfl⟩
  have hP1 : 1 ≤ P ∧ P ≤ 4 := by omega
  obtain ⟨hP0, hP4⟩ := hP1
  have hw1 : IntKind.i64.wrap (1 + (m : Int)) = (P : Int) := by rw [IntWalk.i64_in _ (by omega)]; omega
  replace hm := Lib.hid hm
  clear hP
  have hpp : Hid (1 ≤ (P : Int) ∧ (P : Int) ≤ 4) := ⟨by omega, by omega⟩
  obtain ⟨a, ha, hab⟩ := and_ffff fr
  have hm1 : ∀ w, (Instr.makeSlice 34 (.int .i64 16) (.int .i64 16)).run Try.prog w = .ok (.slice (some ⟨w.heap.size, 0, none⟩) 16 16) (w.alloc (.cells (madeCells #[.int .i64 0] 16) 3)) := run_make_row' (P := Try.prog) 34 3 (.int .i64 0) 8 Try.underlying34 infoI rfl .i64 .i64 16 (by omega) (by omega)
  have hm2 : ∀ w, (Instr.makeSlice 34 (.int .i64 (P : Int)) (.int .i64 (P : Int))).run Try.prog w = .ok (.slice (some ⟨w.heap.size, 0, none⟩) P P) (w.alloc (.cells (madeCells #[.int .i64 0] P) 3)) := run_make_row' (P := Try.prog) 34 3 (.int .i64 0) 8 Try.underlying34 infoI rfl .i64 .i64 P (by omega) (by omega)
  go_enter Try.func7, Try.ntmps7
  go_wp2_with fail
  refine (known8 w w _ (Hs.start w)).mono ?_
  rintro e w1 ⟨rfl, H⟩
  go_wp2_with fail
  refine (place26 p0 4 w1 (by omega) (by omega)).mono ?_
  rw [hm.out]
  rintro e w2 ⟨rfl, rfl⟩
  go_wp2_with fail
  have K := Lib.hid (H.ls_made (E := Enc.num .i64) 3 0 (.int .i64 0) rfl 16 (by omega))
  clear H hm1
  generalize World.alloc w1 _ = w2 at K ⊢
  generalize w1.heap.size = gg at K ⊢
  have hc0 := Lib.hid (Cnt.start a)
  go_loopg [6] 200 (fun k iv wr => ∃ (i : Nat) (l : List Int), k + i = 200 ∧ iv = .int .i64 i ∧ Hid (Cnt a i l) ∧ Hid (Hs w wr [Ls (Enc.num .i64) 3 (.slice (some ⟨gg, 0, none⟩) 16 16) l, Old w]))
  case atStart => exact ⟨0, _, rfl, rfl, hc0, K⟩
  case round =>
    clear K hc0
    obtain ⟨i, l, hi, rfl, hc, K⟩ := hrel
    have hi200 : i ≤ 200 := by omega
    replace hi := Lib.hid hi
    rcases Nat.lt_or_ge i 200 with hlt | hlt
    · have hi0 : (0 : Int) ≤ (i : Int) := by omega
      have hi1 : (i : Int) < 200 := by omega
      have hw2 : IntKind.i64.wrap ((a : Int) + (i : Int)) = ((a + i : Nat) : Int) := by rw [IntWalk.i64_in _ (by omega)]; omega
      have hw3 : IntKind.i64.wrap ((i : Int) + 1) = ((i + 1 : Nat) : Int) := by rw [IntWalk.i64_in _ (by omega)]; omega
      have hgr : Hid (group ((a : Int) + (i : Int)) = (grp (a + i) : Int)) := by show _ = _; rw [← group_nat (a + i) (by omega), Int.natCast_add]
      have hg16 := grp_lt (a + i)
      obtain ⟨x, hx⟩ : ∃ x, l[grp (a + i)]? = some x := ⟨_, List.getElem?_eq_getElem (by rw [hc.out.len]; exact hg16)⟩
      have hnx := Lib.hid (hc.out.next x hx)
      have hxb := hc.out.bd _ _ hx
      obtain ⟨q, hq⟩ : ∃ q, grp (a + i) = q := ⟨_, rfl⟩
      rw [hq] at hgr hg16 hx hnx
      clear hq
      have c0 : wr.cell? ⟨gg, q, none⟩ = some (.int .i64 x) := by have := K.out.ls_rd.cell hx 0 rfl; simpa [Enc.num] using this
      have f0 := K.out.ls_frozen q
      have hw4 : IntKind.i64.wrap (x + 1) = x + 1 := IntWalk.i64_in _ (by omega)
      have K2 := Lib.hid (K.out.ls_set0 rfl q hg16 (x + 1) (.int .i64 (x + 1)) rfl)
      have hq0 : (0 : Int) ≤ (q : Int) := by omega
      have hq1 : (q : Int) < 16 := by omega
      clear hxb K hx hc
      go_wp2_with fail
      refine (group22 _ wr).mono ?_
      rw [hgr.out]
      rintro e w3 ⟨rfl, rfl⟩
      go_wp2_with fail
      go_roundg (200 - (i + 1))
      case measure => have := hi.out; omega
      case rel => exact ⟨i + 1, _, by have := hi.out; omega, by go_num, hnx, K2⟩
    · obtain rfl : i = 200 := by omega
      have hwh := Lib.hid (fun g x h => hc.out.whole ha g x h)
      have hll := Lib.hid hc.out.len
      clear hlt hc
      go_wp2_with fail
      have K2 := Lib.hid (K.out.ls_made (E := Enc.num .i64) 3 0 (.int .i64 0) rfl P (by omega))
      clear K hm2
      generalize World.alloc wr _ = w4 at K2 ⊢
      generalize wr.heap.size = gp at K2 ⊢
      have hp0 := Lib.hid (Prt.start P)
      go_loopg [8] 16 (fun k iv wr => ∃ (i : Nat) (ps : List Int), k + i = 16 ∧ iv = .int .i64 i ∧ Hid (Prt P i ps) ∧ Hid (Hs w wr [Ls (Enc.num .i64) 3 (.slice (some ⟨gp, 0, none⟩) P P) ps, Ls (Enc.num .i64) 3 (.slice (some ⟨gg, 0, none⟩) 16 16) l, Old w]))
      case atStart => exact ⟨0, _, rfl, rfl, hp0, K2⟩
      case round =>
        clear K2 hp0
        obtain ⟨i, ps, hi, rfl, hc, KQ⟩ := hrel
        have hi16 : i ≤ 16 := by omega
        replace hi := Lib.hid hi
        rcases Nat.lt_or_ge i 16 with hlt | hlt
        · have hi0 : (0 : Int) ≤ (i : Int) := by omega
          have hi1 : (i : Int) < 16 := by omega
          have hw3 : IntKind.i64.wrap ((i : Int) + 1) = ((i + 1 : Nat) : Int) := by rw [IntWalk.i64_in _ (by omega)]; omega
          have hpi := part_in P hpp.out i hlt
          obtain ⟨q, hq⟩ := Int.eq_ofNat_of_zero_le hpi.1
          have hqP : q < P := by omega
          obtain ⟨x, hx⟩ : ∃ x, ps[q]? = some x := ⟨_, List.getElem?_eq_getElem (by have := hc.out.len; omega)⟩
          obtain ⟨y, hy⟩ : ∃ y, l[i]? = some y := ⟨_, List.getElem?_eq_getElem (by rw [hll.out]; exact hlt)⟩
          have hyb := hwh.out i y hy
          have hnx := Lib.hid (hc.out.next x y q (by rw [hq]; rfl) hx hyb)
          have hxb := hc.out.bd _ _ hx
          replace hq := Lib.hid hq
          have SS : Hid (∀ w', Hs w w' [Ls (Enc.num .i64) 3 (.slice (some ⟨gp, 0, none⟩) P P) ps, Ls (Enc.num .i64) 3 (.slice (some ⟨gg, 0, none⟩) 16 16) l, Old w] → w'.cell? ⟨gp, q, none⟩ = some (.int .i64 x) ∧ w'.cell? ⟨gg, i, none⟩ = some (.int .i64 y)) :=
            fun w' h => ⟨by have := h.ls_rd.cell hx 0 rfl; simpa [Enc.num] using this, by have := h.at1.ls_rd.cell hy 0 rfl; simpa [Enc.num] using this⟩
          have hw4 : IntKind.i64.wrap (x + y) = x + y := IntWalk.i64_in _ (by omega)
          have hq0 : (0 : Int) ≤ (q : Int) := by omega
          have hq1 : (q : Int) < (P : Int) := by omega
          clear hxb hyb hpi hx hy hc
          go_wp2_with fail
          refine wp_region_left (S := fun w' : World => w'.cell? ⟨gp, q, none⟩ = some (.int .i64 x) ∧ w'.cell? ⟨gg, i, none⟩ = some (.int .i64 y)) 12 mixed ?_
          have hS : (fun w' : World => w'.cell? ⟨gp, q, none⟩ = some (.int .i64 x) ∧ w'.cell? ⟨gg, i, none⟩ = some (.int .i64 y)) wr.drew := by exact SS.out _ KQ.out.drew
          refine Left.pure (i := 0) (v := ?v13_0) rfl (by kernel_rfl) (fun _ _ _ h => h) (Or.inr hS) (Or.inl ⟨by kernel_rfl, fun w _ => ?hy13_0⟩) ?rest13_0
          case hy13_0 => (go_simp; try with_reducible rfl)
          try simp only [Act.put, List.setIfInBounds_toArray, List.set_cons_zero, List.set_cons_succ]
          refine Left.pure (i := 1) (v := ?v13_1) rfl (by kernel_rfl) (fun _ _ _ h => h) (Or.inr hS) (Or.inl ⟨by kernel_rfl, fun w _ => ?hy13_1⟩) ?rest13_1
          case hy13_1 => (go_simp; try with_reducible rfl)
          try simp only [Act.put, List.setIfInBounds_toArray, List.set_cons_zero, List.set_cons_succ]
          refine Left.pure (i := 2) (v := ?v13_2) rfl (by kernel_rfl) (fun _ _ _ h => h) (Or.inr hS) (Or.inl ⟨by kernel_rfl, fun w _ => ?hy13_2⟩) ?rest13_2
          case hy13_2 => (go_simp; try with_reducible rfl)
          try simp only [Act.put, List.setIfInBounds_toArray, List.set_cons_zero, List.set_cons_succ]
          refine Left.pure (i := 6) (v := ?v13_6) rfl (by kernel_rfl) (fun _ _ _ h => h) (Or.inr hS) (Or.inl ⟨by kernel_rfl, fun w _ => ?hy13_6⟩) ?rest13_6
          case hy13_6 => (go_simp; try with_reducible rfl)
          try simp only [Act.put, List.setIfInBounds_toArray, List.set_cons_zero, List.set_cons_succ]
          refine Left.pure (i := 7) (v := ?v13_7) rfl (by kernel_rfl) (fun _ _ _ h => h) (Or.inr hS) (Or.inl ⟨by kernel_rfl, fun w _ => ?hy13_7⟩) ?rest13_7
          case hy13_7 => (go_simp; try with_reducible rfl)
          try simp only [Act.put, List.setIfInBounds_toArray, List.set_cons_zero, List.set_cons_succ]
          refine Left.pure (i := 8) (v := ?v13_8) rfl (by kernel_rfl) (fun _ _ _ h => h) (Or.inr hS) (Or.inl ⟨by kernel_rfl, fun w _ => ?hy13_8⟩) ?rest13_8
          case hy13_8 => (go_simp; try with_reducible rfl)
          try simp only [Act.put, List.setIfInBounds_toArray, List.set_cons_zero, List.set_cons_succ]
          refine Left.take (i := 9) (v := ?v13_9) rfl (by kernel_rfl) (fun _ _ _ h => h) hS (Or.inl ⟨by kernel_rfl, fun w hSw => ?hy13_9⟩) ?rest13_9
          case hy13_9 => ((try dsimp only at hSw); go_simp; try with_reducible rfl)
          try simp only [Act.put, List.setIfInBounds_toArray, List.set_cons_zero, List.set_cons_succ]
          refine Left.run (i := 3) rfl (by kernel_rfl) (fun K hK => ?_)
          go_simp
          go_at_call 24
          refine (part24 i P _).mono ?_
          rw [hq.out]
          rintro e w5 ⟨rfl, rfl⟩
          go_simp
          replace hS : (fun w' : World => w'.cell? ⟨gp, q, none⟩ = some (.int .i64 x) ∧ w'.cell? ⟨gg, i, none⟩ = some (.int .i64 y)) wr.drew := by exact SS.out _ KQ.out.drew
          refine hK.out _ _ (Or.inr hS) ?_
          clear hK K
          try simp only [Act.put, List.setIfInBounds_toArray, List.set_cons_zero, List.set_cons_succ]
          refine Left.pure (i := 4) (v := ?v13_4) rfl (by kernel_rfl) (fun _ _ _ h => h) (Or.inr hS) (Or.inl ⟨by kernel_rfl, fun w _ => ?hy13_4⟩) ?rest13_4
          case hy13_4 => (go_simp; try with_reducible rfl)
          try simp only [Act.put, List.setIfInBounds_toArray, List.set_cons_zero, List.set_cons_succ]
          refine Left.take (i := 5) (v := ?v13_5) rfl (by kernel_rfl) (fun _ _ _ h => h) hS (Or.inl ⟨by kernel_rfl, fun w hSw => ?hy13_5⟩) ?rest13_5
          case hy13_5 => ((try dsimp only at hSw); go_simp; try with_reducible rfl)
          try simp only [Act.put, List.setIfInBounds_toArray, List.set_cons_zero, List.set_cons_succ]
          refine Left.pure (i := 10) (v := ?v13_10) rfl (by kernel_rfl) (fun _ _ _ h => h) (Or.inr hS) (Or.inl ⟨by kernel_rfl, fun w _ => ?hy13_10⟩) ?rest13_10
          case hy13_10 => (go_simp; try with_reducible rfl)
          try simp only [Act.put, List.setIfInBounds_toArray, List.set_cons_zero, List.set_cons_succ]
          refine Left.pure (i := 11) (v := ?v13_11) rfl (by kernel_rfl) (fun _ _ _ h => h) (Or.inr hS) (Or.inl ⟨by kernel_rfl, fun w _ => ?hy13_11⟩) ?rest13_11
          case hy13_11 => (go_simp; try with_reducible rfl)
          try simp only [Act.put, List.setIfInBounds_toArray, List.set_cons_zero, List.set_cons_succ]
          refine Left.run (i := 12) rfl (by kernel_rfl) (fun K hK => ?_)
          have f1 := KQ.out.drew.ls_frozen q
          have d1 := (SS.out _ KQ.out.drew).1
          go_simp
          refine hK.out _ _ (Or.inl (by kernel_rfl)) ?_
          clear hK K
          try simp only [Act.put, List.setIfInBounds_toArray, List.set_cons_zero, List.set_cons_succ]
          refine Left.done (by kernel_rfl) ?_ _
          have K2 := Lib.hid (KQ.out.drew.ls_set0 rfl q hqP (x + y) (.int .i64 (x + y)) rfl)
          clear f1 d1 KQ SS
          go_wp2_with fail
          go_roundg (16 - (i + 1))
          case measure => have := hi.out; omega
          case rel => exact ⟨i + 1, _, by have := hi.out; omega, by go_num, hnx, K2⟩
        · obtain rfl : i = 16 := by omega
          clear hlt
          go_wp2_with fail
          go_loopg [9] P (fun k iv wx => ∃ (j : Nat), k + j = P ∧ iv = .int .i64 j ∧ Hid (wx = wr))
          case atStart => exact ⟨0, rfl, rfl, Lib.hid rfl⟩
          case round =>
            obtain ⟨j, hj, rfl, hw0⟩ := hrel
            have hw0 := hw0.out
            subst hw0
            have hjP : j ≤ P := by omega
            replace hj := Lib.hid hj
            rcases Nat.lt_or_ge j P with hlt | hlt
            · have hj0 : (0 : Int) ≤ (j : Int) := by omega
              have hj1 : (j : Int) < (P : Int) := by omega
              have hw3 : IntKind.i64.wrap ((j : Int) + 1) = ((j + 1 : Nat) : Int) := by rw [IntWalk.i64_in _ (by omega)]; omega
              obtain ⟨x, hx⟩ : ∃ x, ps[j]? = some x := ⟨_, List.getElem?_eq_getElem (by have := hc.out.len; omega)⟩
              have hx1 : 1 ≤ x := by
                obtain ⟨g, hg, he⟩ := part_hit P hpp.out j (by omega) hj1
                exact hc.out.hit g hg x (by rw [he]; exact hx)
              have hx2 : (x == 0) = false := by rw [beq_eq_false_iff_ne]; omega
              have c0 : wr.cell? ⟨gp, j, none⟩ = some (.int .i64 x) := by have := KQ.out.ls_rd.cell hx 0 rfl; simpa [Enc.num] using this
              clear hx hx1
              go_wp2_with fail
              go_roundg (P - (j + 1))
              case measure => have := hj.out; omega
              case rel => exact ⟨j + 1, by have := hj.out; omega, by go_num, Lib.hid rfl⟩
            · have hj1 : decide ((j : Int) < (P : Int)) = false := by rw [decide_eq_false_iff_not]; omega
              have hj2 : decide (j < P) = false := by rw [decide_eq_false_iff_not]; omega
              clear hlt
              go_wp2_with fail
              go_ret
              exact ⟨rfl, KQ.out.tail.tail.under_old⟩
end Go.Proofs.Ytbifajiigpalhaa

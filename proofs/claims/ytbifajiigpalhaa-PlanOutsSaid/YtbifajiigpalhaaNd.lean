import Derived.Test.YtbifajiigpalhaaNc
import Derived.Test.YtbifajiigpalhaaPa
import Derived.IntWalk
import Derived.Laws.MakeOwn
import Derived.Test.YtbifajiigpalhaaProg
import Derived.Test.YtbifajiigpalhaaLs
import Derived.Outline
import Derived.StillTailTactics
import Derived.Deep.DeepCutAuto
import Derived.Deep.CutBlock
import Derived.Deep.LoopGhost
import Derived.Deep.QuietTactic
import Derived.BigQuiet
import Derived.Deep.RegionHeld3
import Derived.Deep.RegionLaw
set_option linter.unusedVariables false
set_option linter.unusedSimpArgs false
namespace Go.Proofs.Ytbifajiigpalhaa
open Go.RowKit
def WtP (N : Nat) (w0 : World) (R : List HP) (e : Ending) (w' : World) : Prop := ∃ A n c l, e = .returned (.slice A n c) ∧ (l.length = n ∧ (n = 0 ∨ n = N)) ∧ Hs w0 w' (Ls (Enc.num .i64) 3 (.slice A n c) l :: R)
theorem quo_ok (a b : Int) (hb : 1 ≤ b) : (b == 0) = false := by rw [beq_eq_false_iff_ne]; omega
set_option maxRecDepth 100000 in
set_option maxHeartbeats 4000000 in
theorem weights37 {W : World} (jv : Value) (zs : List Nd) (hx : JobX W jv zs) (w w0 : World) (R : List HP) (H : Hs w0 w R) (hk : ∀ w', Hs w0 w' R → Kept W w') (hN40 : zs.length ≤ 40) : Calls Try.prog 37 #[.agg #[jv]] w (WtP zs.length w0 R) := by
  obtain ⟨Aj, cj, hv⟩ := hx.job.form
  subst hv
  have hcj := hx.job.1.caps.2
  have hj := Lib.hid hx.job
  have TL := Lib.hid (fun w hk => light36 (.slice Aj zs.length cj) zs hx w hk)
  have TO := Lib.hid (fun w w0 R H hk h40 => order39 (.slice Aj zs.length cj) zs hx.job w w0 R H hk h40)
  have H := Lib.hid (H.alloc (.cells #[.slice Aj zs.length cj] 24))
  obtain ⟨N, hN⟩ : ∃ N, zs.length = N := ⟨_, rfl⟩
  rw [hN] at hcj hj TL TO H hN40 ⊢
  have hmk : ∀ w, (Instr.makeSlice 34 (.int .i64 (N : Int)) (.int .i64 (N : Int))).run Try.prog w = .ok (.slice (some ⟨w.heap.size, 0, none⟩) N N) (w.alloc (.cells (madeCells #[.int .i64 0] N) 3)) := run_make_row' (P := Try.prog) 34 3 (.int .i64 0) 8 Try.underlying34 infoI rfl .i64 .i64 N (by omega) (by omega)
  replace hN := Lib.hid hN
  replace hk := Lib.hid hk
  clear hx
  go_enter Try.func37, Try.ntmps37
  go_upto_region 1 with (fail)
  generalize World.alloc w _ = w1 at H ⊢
  generalize w.heap.size = b at H ⊢
  have b0 : w1.cell? ⟨b, 0, none⟩ = some (.slice Aj N cj) := H.out.cellOf 0 rfl
  go_wp2_with fail
  refine (TL.out w1 (hk.out _ H.out.tail)).mono ?_
  rintro e w2 ⟨r, rfl, hr, hb⟩
  replace hr := Lib.hid hr
  have K := Lib.hid (H.out.below hb)
  clear hb H b0
  cases hr0 : (r != 0) with
  | true =>
    go_wp2_with fail
    go_ret
    exact ⟨none, 0, 0, [], rfl, ⟨rfl, .inl rfl⟩, K.out.tail.ls_nil (Enc.num .i64) 3⟩
  | false =>
    have hrn : Hid (r = 0) := by show _ = _; simpa using hr0
    have hok := Lib.hid (hr.out hrn.out)
    have b0 : w2.cell? ⟨b, 0, none⟩ = some (.slice Aj N cj) := K.out.cellOf 0 rfl
    go_upto_region 4 with (fail)
    have K2 := Lib.hid (K.out.ls_made (E := Enc.num .i64) 3 0 (.int .i64 0) rfl N (by omega)).at1
    clear K hmk hr b0
    generalize World.alloc w2 _ = w3 at K2 ⊢
    generalize w2.heap.size = gw at K2 ⊢
    have b0 : w3.cell? ⟨b, 0, none⟩ = some (.slice Aj N cj) := K2.out.cellOf 0 rfl
    go_wp2_with fail
    refine (TO.out w3 w0 _ K2.out (fun w' h => hk.out _ h.tail.tail) hN40).mono ?_
    rintro e w4 ⟨Ao, no, co, o, rfl, ⟨ho1, ho2, ho3⟩, K3⟩
    replace ho1 := Lib.hid ho1
    replace ho3 := Lib.hid ho3
    have hco := K3.ls_rd.caps.2
    replace K3 := Lib.hid K3
    clear b0 K2
    have hl0 : Hid ((List.replicate N (0 : Int)).length = N) := List.length_replicate ..
    go_wp2_with fail
    go_loopg [5] no (fun k iv wr => ∃ (j : Nat) (l : List Int), k + j = no ∧ iv = .int .i64 j ∧ Hid (l.length = N) ∧ Hid (Hs w0 wr (Ls (Enc.num .i64) 3 (.slice Ao no co) o :: Blk b (.cells #[.slice Aj N cj] 24) :: Ls (Enc.num .i64) 3 (.slice (some ⟨gw, 0, none⟩) N N) l :: R)))
    case atStart => exact ⟨0, _, rfl, rfl, hl0, K3⟩
    case round =>
      clear K3 hl0
      obtain ⟨j, l, hg, rfl, hll, KQ⟩ := hrel
      have hjn : j ≤ no := by omega
      replace hg := Lib.hid hg
      rcases Nat.lt_or_ge j no with hlt | hlt
      · have hj0 : (0 : Int) ≤ (j : Int) := by omega
        have hj1 : (j : Int) < (no : Int) := by omega
        have hw6 : IntKind.i64.wrap ((j : Int) + 1) = ((j + 1 : Nat) : Int) := by rw [IntWalk.i64_in _ (by omega)]; omega
        obtain ⟨x, hx⟩ : ∃ x, o[j]? = some x := ⟨_, List.getElem?_eq_getElem (by have := ho1.out; omega)⟩
        have hxn := ho3.out x (List.mem_of_getElem? hx)
        unfold isN at hxn
        simp only [Bool.and_eq_true, decide_eq_true_eq] at hxn
        obtain ⟨hx0, hx1⟩ := hxn
        obtain ⟨m, rfl⟩ := Int.eq_ofNat_of_zero_le hx0
        obtain ⟨go, oo, rfl⟩ := KQ.out.ls_rd.some_ (by have := ho1.out; omega)
        have hoc := Lib.hid (fun w' R' (h : Hs w0 w' (Ls (Enc.num .i64) 3 (.slice (some ⟨go, oo, none⟩) no co) o :: R')) => show w'.cell? ⟨go, oo + j, none⟩ = some (.int .i64 m) by have := h.ls_rd.cell hx 0 rfl; simpa [Enc.num] using this)
        obtain ⟨z, hz⟩ : ∃ z, zs[m]? = some z := ⟨_, List.getElem?_eq_getElem (by have := hN.out; omega)⟩
        have hzmem := List.mem_of_getElem? hz
        have hnok := hok.out.node z hzmem
        rw [hN.out] at hnok
        have hkw := hk.out wr KQ.out.tail.tail.tail
        have hjw : JobR wr (.slice Aj N cj) zs := hj.out.step hkw
        obtain ⟨gj, oj, rfl⟩ := hjw.1.some_ (by rw [List.length_map, hN.out]; omega)
        have hcc := Lib.hid (fun w' (h : Hs w0 w' R) => (show JobR w' (.slice (some ⟨gj, oj, none⟩) N cj) zs from hj.out.step (hk.out _ h)).cells hz)
        have hii := Lib.hid (fun w' (h : Hs w0 w' R) => (show JobR w' (.slice (some ⟨gj, oj, none⟩) N cj) zs from hj.out.step (hk.out _ h)).2 z hzmem)
        obtain ⟨⟨kd, ⟨sa, sn, sc⟩, pr, ⟨eo, en, ⟨ea, el, ec⟩⟩, ag, ⟨wk, ws, wl⟩⟩, ins⟩ := z
        dsimp only [Nd.kind, Nd.sl, Nd.par] at hcc hii
        have hsl := hnok.slide
        have hin := hnok.ins
        dsimp only at hsl hin
        replace hsl := Lib.hid hsl
        replace hin := Lib.hid hin
        have hic := (hii.out wr KQ.out.tail.tail.tail).caps
        obtain ⟨rfl, hsc⟩ := hic
        obtain ⟨I, hI⟩ : ∃ I, ins.length = I := ⟨_, rfl⟩
        have hI4 : I ≤ 4 := by rw [← hI]; exact hnok.few
        rw [hI] at hcc hii hsc
        replace hI := Lib.hid hI
        clear hx hz hzmem hnok hkw hjw
        have SS : Hid (∀ w', Hs w0 w' (Ls (Enc.num .i64) 3 (.slice (some ⟨go, oo, none⟩) no co) o :: Blk b (.cells #[.slice (some ⟨gj, oj, none⟩) N cj] 24) :: Ls (Enc.num .i64) 3 (.slice (some ⟨gw, 0, none⟩) N N) l :: R) → w'.cell? ⟨go, oo + j, none⟩ = some (.int .i64 m) ∧ w'.cell? ⟨b, 0, none⟩ = some (.slice (some ⟨gj, oj, none⟩) N cj) ∧ w'.cell? ⟨gj, oj + m * 10, none⟩ = some (.int .i64 kd) ∧ w'.cell? ⟨gj, oj + m * 10 + 1, none⟩ = some (.slice sa I sc) ∧ w'.cell? ⟨gj, oj + m * 10 + 2, none⟩ = some (.int .i64 pr) ∧ w'.cell? ⟨gj, oj + m * 10 + 3, none⟩ = some (.int .i64 eo) ∧ w'.cell? ⟨gj, oj + m * 10 + 4, none⟩ = some (.int .i64 en) ∧ w'.cell? ⟨gj, oj + m * 10 + 5, none⟩ = some (.slice ea el ec) ∧ w'.cell? ⟨gj, oj + m * 10 + 6, none⟩ = some (.int .i64 ag) ∧ w'.cell? ⟨gj, oj + m * 10 + 7, none⟩ = some (.int .i64 wk) ∧ w'.cell? ⟨gj, oj + m * 10 + 8, none⟩ = some (.int .i64 ws) ∧ w'.cell? ⟨gj, oj + m * 10 + 9, none⟩ = some (.int .i64 wl)) :=
          fun w' h => ⟨hoc.out _ _ h, h.at1.cellOf 0 rfl, hcc.out _ h.tail.tail.tail⟩
        go_upto_region 8 with (fail)
        refine wp_region_left (S := fun w' : World => w'.cell? ⟨go, oo + j, none⟩ = some (.int .i64 m) ∧ w'.cell? ⟨b, 0, none⟩ = some (.slice (some ⟨gj, oj, none⟩) N cj) ∧ w'.cell? ⟨gj, oj + m * 10, none⟩ = some (.int .i64 kd) ∧ w'.cell? ⟨gj, oj + m * 10 + 1, none⟩ = some (.slice sa I sc) ∧ w'.cell? ⟨gj, oj + m * 10 + 2, none⟩ = some (.int .i64 pr) ∧ w'.cell? ⟨gj, oj + m * 10 + 3, none⟩ = some (.int .i64 eo) ∧ w'.cell? ⟨gj, oj + m * 10 + 4, none⟩ = some (.int .i64 en) ∧ w'.cell? ⟨gj, oj + m * 10 + 5, none⟩ = some (.slice ea el ec) ∧ w'.cell? ⟨gj, oj + m * 10 + 6, none⟩ = some (.int .i64 ag) ∧ w'.cell? ⟨gj, oj + m * 10 + 7, none⟩ = some (.int .i64 wk) ∧ w'.cell? ⟨gj, oj + m * 10 + 8, none⟩ = some (.int .i64 ws) ∧ w'.cell? ⟨gj, oj + m * 10 + 9, none⟩ = some (.int .i64 wl)) 9 mixed ?_
        have hS : (fun w' : World => w'.cell? ⟨go, oo + j, none⟩ = some (.int .i64 m) ∧ w'.cell? ⟨b, 0, none⟩ = some (.slice (some ⟨gj, oj, none⟩) N cj) ∧ w'.cell? ⟨gj, oj + m * 10, none⟩ = some (.int .i64 kd) ∧ w'.cell? ⟨gj, oj + m * 10 + 1, none⟩ = some (.slice sa I sc) ∧ w'.cell? ⟨gj, oj + m * 10 + 2, none⟩ = some (.int .i64 pr) ∧ w'.cell? ⟨gj, oj + m * 10 + 3, none⟩ = some (.int .i64 eo) ∧ w'.cell? ⟨gj, oj + m * 10 + 4, none⟩ = some (.int .i64 en) ∧ w'.cell? ⟨gj, oj + m * 10 + 5, none⟩ = some (.slice ea el ec) ∧ w'.cell? ⟨gj, oj + m * 10 + 6, none⟩ = some (.int .i64 ag) ∧ w'.cell? ⟨gj, oj + m * 10 + 7, none⟩ = some (.int .i64 wk) ∧ w'.cell? ⟨gj, oj + m * 10 + 8, none⟩ = some (.int .i64 ws) ∧ w'.cell? ⟨gj, oj + m * 10 + 9, none⟩ = some (.int .i64 wl)) wr.drew := by exact SS.out _ KQ.out.drew
        refine Left.pure (i := 0) (v := ?v8_0) rfl (by kernel_rfl) (fun _ _ _ h => h) (Or.inr hS) (Or.inl ⟨by kernel_rfl, fun w _ => ?hy8_0⟩) ?rest8_0
        case hy8_0 => (go_simp; try with_reducible rfl)
        try simp only [Act.put, List.setIfInBounds_toArray, List.set_cons_zero, List.set_cons_succ]
        refine Left.take (i := 1) (v := ?v8_1) rfl (by kernel_rfl) (fun _ _ _ h => h) hS (Or.inl ⟨by kernel_rfl, fun w hSw => ?hy8_1⟩) ?rest8_1
        case hy8_1 => ((try dsimp only at hSw); go_simp; try with_reducible rfl)
        try simp only [Act.put, List.setIfInBounds_toArray, List.set_cons_zero, List.set_cons_succ]
        refine Left.pure (i := 2) (v := ?v8_2) rfl (by kernel_rfl) (fun _ _ _ h => h) (Or.inr hS) (Or.inl ⟨by kernel_rfl, fun w _ => ?hy8_2⟩) ?rest8_2
        case hy8_2 => (go_simp; try with_reducible rfl)
        try simp only [Act.put, List.setIfInBounds_toArray, List.set_cons_zero, List.set_cons_succ]
        refine Left.pure (i := 3) (v := ?v8_3) rfl (by kernel_rfl) (fun _ _ _ h => h) (Or.inr hS) (Or.inl ⟨by kernel_rfl, fun w _ => ?hy8_3⟩) ?rest8_3
        case hy8_3 => (go_simp; try with_reducible rfl)
        try simp only [Act.put, List.setIfInBounds_toArray, List.set_cons_zero, List.set_cons_succ]
        refine Left.pure (i := 4) (v := ?v8_4) rfl (by kernel_rfl) (fun _ _ _ h => h) (Or.inr hS) (Or.inl ⟨by kernel_rfl, fun w _ => ?hy8_4⟩) ?rest8_4
        case hy8_4 => (go_simp; try with_reducible rfl)
        try simp only [Act.put, List.setIfInBounds_toArray, List.set_cons_zero, List.set_cons_succ]
        refine Left.take (i := 5) (v := ?v8_5) rfl (by kernel_rfl) (fun _ _ _ h => h) hS (Or.inl ⟨by kernel_rfl, fun w hSw => ?hy8_5⟩) ?rest8_5
        case hy8_5 => ((try dsimp only at hSw); go_simp; try with_reducible rfl)
        try simp only [Act.put, List.setIfInBounds_toArray, List.set_cons_zero, List.set_cons_succ]
        refine Left.pure (i := 6) (v := ?v8_6) rfl (by kernel_rfl) (fun _ _ _ h => h) (Or.inr hS) (Or.inl ⟨by kernel_rfl, fun w _ => ?hy8_6⟩) ?rest8_6
        case hy8_6 => (go_simp; try with_reducible rfl)
        try simp only [Act.put, List.setIfInBounds_toArray, List.set_cons_zero, List.set_cons_succ]
        refine Left.take (i := 7) (v := ?v8_7) rfl (by kernel_rfl) (fun _ _ _ h => h) hS (Or.inl ⟨by kernel_rfl, fun w hSw => ?hy8_7⟩) ?rest8_7
        case hy8_7 => ((try dsimp only at hSw); go_simp; try with_reducible rfl)
        try simp only [Act.put, List.setIfInBounds_toArray, List.set_cons_zero, List.set_cons_succ]
        refine Left.run (i := 8) rfl (by kernel_rfl) (fun K hK => ?_)
        have K2 := KQ.out.drew.alloc (.cells #[.int .i64 0, .slice none 0 0, .int .i64 0, .int .i64 0, .int .i64 0, .slice none 0 0, .int .i64 0, .int .i64 0, .int .i64 0, .int .i64 0] 54)
        go_simp
        replace hS : (fun w' : World => w'.cell? ⟨go, oo + j, none⟩ = some (.int .i64 m) ∧ w'.cell? ⟨b, 0, none⟩ = some (.slice (some ⟨gj, oj, none⟩) N cj) ∧ w'.cell? ⟨gj, oj + m * 10, none⟩ = some (.int .i64 kd) ∧ w'.cell? ⟨gj, oj + m * 10 + 1, none⟩ = some (.slice sa I sc) ∧ w'.cell? ⟨gj, oj + m * 10 + 2, none⟩ = some (.int .i64 pr) ∧ w'.cell? ⟨gj, oj + m * 10 + 3, none⟩ = some (.int .i64 eo) ∧ w'.cell? ⟨gj, oj + m * 10 + 4, none⟩ = some (.int .i64 en) ∧ w'.cell? ⟨gj, oj + m * 10 + 5, none⟩ = some (.slice ea el ec) ∧ w'.cell? ⟨gj, oj + m * 10 + 6, none⟩ = some (.int .i64 ag) ∧ w'.cell? ⟨gj, oj + m * 10 + 7, none⟩ = some (.int .i64 wk) ∧ w'.cell? ⟨gj, oj + m * 10 + 8, none⟩ = some (.int .i64 ws) ∧ w'.cell? ⟨gj, oj + m * 10 + 9, none⟩ = some (.int .i64 wl)) (wr.drew.alloc (.cells #[.int .i64 0, .slice none 0 0, .int .i64 0, .int .i64 0, .int .i64 0, .slice none 0 0, .int .i64 0, .int .i64 0, .int .i64 0, .int .i64 0] 54)) := by exact SS.out _ (KQ.out.drew.alloc_ _)
        refine hK.out _ _ (Or.inr hS) ?_
        clear hK K
        try simp only [Act.put, List.setIfInBounds_toArray, List.set_cons_zero, List.set_cons_succ]
        refine Left.run (i := 9) rfl (by kernel_rfl) (fun K hK => ?_)
        have f0 := K2.frozenOf 0
        have f1 := K2.frozenOf 1
        have f2 := K2.frozenOf 2
        have f3 := K2.frozenOf 3
        have f4 := K2.frozenOf 4
        have f5 := K2.frozenOf 5
        have f6 := K2.frozenOf 6
        have f7 := K2.frozenOf 7
        have f8 := K2.frozenOf 8
        have f9 := K2.frozenOf 9
        have d0 := K2.cellOf 0 rfl
        have d1 := K2.cellOf 1 rfl
        have d2 := K2.cellOf 2 rfl
        have d3 := K2.cellOf 3 rfl
        have d4 := K2.cellOf 4 rfl
        have d5 := K2.cellOf 5 rfl
        have d6 := K2.cellOf 6 rfl
        have d7 := K2.cellOf 7 rfl
        have d8 := K2.cellOf 8 rfl
        have d9 := K2.cellOf 9 rfl
        go_simp
        refine hK.out _ _ (Or.inl (by kernel_rfl)) ?_
        clear hK K
        try simp only [Act.put, List.setIfInBounds_toArray, List.set_cons_zero, List.set_cons_succ]
        refine Left.done (by kernel_rfl) ?_ _
        have K3 := Lib.hid ((KQ.out.alloc (.cells #[.int .i64 kd, .slice sa I sc, .int .i64 pr, .int .i64 eo, .int .i64 en, .slice ea el ec, .int .i64 ag, .int .i64 wk, .int .i64 ws, .int .i64 wl] 54)).drew)
        clear f0 d0 f1 d1 f2 d2 f3 d3 f4 d4 f5 d5 f6 d6 f7 d7 f8 d8 f9 d9 K2
        go_wp2_with fail
        generalize World.drew _ = w5 at K3 ⊢
        generalize wr.heap.size = bn at K3 ⊢
        clear SS hcc KQ
        go_loopg [7, 8] I (fun k xv iv wx => ∃ (i : Nat) (x : Int), k + i = I ∧ iv = .int .i64 i ∧ xv = .int .i64 x ∧ Hid (wx = w5))
        case atStart => exact ⟨0, 0, rfl, rfl, rfl, Lib.hid rfl⟩
        case round =>
          obtain ⟨i, x, hi, rfl, rfl, hw5⟩ := hrel
          have hw5 := hw5.out
          subst hw5
          have hiI : i ≤ I := by omega
          replace hi := Lib.hid hi
          have b1 : wr.cell? ⟨bn, 1, none⟩ = some (.slice sa I sc) := K3.out.cellOf 1 rfl
          rcases Nat.lt_or_ge i I with hli | hli
          · have hi0 : (0 : Int) ≤ (i : Int) := by omega
            have hi1 : (i : Int) < (I : Int) := by omega
            have hw7 : IntKind.i64.wrap ((i : Int) + 1) = ((i + 1 : Nat) : Int) := by rw [IntWalk.i64_in _ (by omega)]; omega
            have hr2 := hii.out wr K3.out.tail.tail.tail.tail
            obtain ⟨g, off, rfl⟩ := hr2.some_ (by have := hI.out; omega)
            obtain ⟨v, hv⟩ : ∃ r, ins[i]? = some r := ⟨_, List.getElem?_eq_getElem (by have := hI.out; omega)⟩
            have s0 : wr.cell? ⟨g, off + i, none⟩ = some (.int .i64 v) := by have := hr2.cell hv 0 rfl; simpa [Enc.num] using this
            have hvn := hin.out v (List.mem_of_getElem? hv)
            unfold isN at hvn
            simp only [Bool.and_eq_true, decide_eq_true_eq] at hvn
            obtain ⟨hv0, hv1⟩ := hvn
            obtain ⟨q, rfl⟩ := Int.eq_ofNat_of_zero_le hv0
            obtain ⟨u, hu⟩ : ∃ y, l[q]? = some y := ⟨_, List.getElem?_eq_getElem (by rw [hll.out]; omega)⟩
            have s1 : wr.cell? ⟨gw, q, none⟩ = some (.int .i64 u) := by have := K3.out.at3.ls_rd.cell hu 0 rfl; simpa [Enc.num] using this
            clear hv hu hr2
            go_wp2_with fail
            all_goals
              go_roundg (I - (i + 1))
              case measure => have := hi.out; omega
              case rel => exact ⟨i + 1, _, by have := hi.out; omega, by go_num, rfl, Lib.hid rfl⟩
          · have hi1 : decide ((i : Int) < (I : Int)) = false := by rw [decide_eq_false_iff_not]; omega
            have hi2 : decide (i < I) = false := by rw [decide_eq_false_iff_not]; omega
            clear hli
            have n0 : wr.cell? ⟨bn, 0, none⟩ = some (.int .i64 kd) := K3.out.cellOf 0 rfl
            have n7 : wr.cell? ⟨bn, 7, none⟩ = some (.int .i64 wk) := K3.out.cellOf 7 rfl
            have n8 : wr.cell? ⟨bn, 8, none⟩ = some (.int .i64 ws) := K3.out.cellOf 8 rfl
            have n9 : wr.cell? ⟨bn, 9, none⟩ = some (.int .i64 wl) := K3.out.cellOf 9 rfl
            go_upto_if 53 with (fail)
            go_cut [7] (fun xv wy => ∃ x : Int, xv = .int .i64 x ∧ wy = wr)
            case first =>
              cases hk1 : (kd == 1) with
              | true =>
                go_wp2_with fail
                go_meet
                case rel => exact ⟨_, rfl, rfl⟩
              | false =>
                go_wp2_with fail
                go_meet
                case rel => exact ⟨_, rfl, rfl⟩
            case rest =>
              obtain ⟨x, hx1, hx2⟩ := hcut
              subst hx1 hx2
              go_upto_if 57 with (fail)
              go_cut [7] (fun xv wy => ∃ x : Int, xv = .int .i64 x ∧ wy = wc)
              case first =>
                cases hk2 : (wk == 2) with
                | true =>
                  have hz1 : 1 ≤ wl := hsl.out (by simpa using hk2)
                  have hz : (wl == 0) = false := quo_ok 0 wl hz1
                  have hz2 : ¬ wl = 0 := by omega
                  go_wp2_with fail
                  all_goals
                    go_meet
                    case rel => exact ⟨_, rfl, rfl⟩
                | false =>
                  go_wp2_with fail
                  go_meet
                  case rel => exact ⟨_, rfl, rfl⟩
              case rest =>
                obtain ⟨x, hx1, hx2⟩ := hcut
                subst hx1 hx2
                clear b1 n0 n7 n8 n9
                have o0 : wc.cell? ⟨go, oo + j, none⟩ = some (.int .i64 m) := hoc.out _ _ K3.out.at1
                have hmN : m < N := by omega
                obtain ⟨u, hu⟩ : ∃ y, l[m]? = some y := ⟨_, List.getElem?_eq_getElem (by rw [hll.out]; exact hmN)⟩
                have s1 : wc.cell? ⟨gw, m, none⟩ = some (.int .i64 u) := by have := K3.out.at3.ls_rd.cell hu 0 rfl; simpa [Enc.num] using this
                have f1 := K3.out.at3.ls_frozen m
                have K4 := Lib.hid (K3.out.at3.ls_set0 rfl m hmN x (.int .i64 x) rfl).at1.tail.at2.at2
                have hl2 : Hid ((l.set m x).length = N) := by show _ = _; rw [List.length_set]; exact hll.out
                clear hu K3
                go_wp2_with fail
                go_roundg (no - (j + 1))
                case measure => have := hg.out; omega
                case rel => exact ⟨j + 1, _, by have := hg.out; omega, by go_num, hl2, K4⟩
      · have hj1 : decide ((j : Int) < (no : Int)) = false := by rw [decide_eq_false_iff_not]; omega
        have hj2 : decide (j < no) = false := by rw [decide_eq_false_iff_not]; omega
        clear hlt
        go_wp2_with fail
        go_ret
        exact ⟨_, N, N, l, rfl, ⟨hll.out, .inr rfl⟩, KQ.out.tail.tail⟩
end Go.Proofs.Ytbifajiigpalhaa

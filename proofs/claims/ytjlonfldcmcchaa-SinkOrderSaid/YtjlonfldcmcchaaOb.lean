import Derived.Test.YtjlonfldcmcchaaAr
import Derived.Test.YtjlonfldcmcchaaPn
import Derived.Test.YtjlonfldcmcchaaProg
import Derived.Test.YtjlonfldcmcchaaLs
import Derived.Outline
import Derived.StillTailTactics
import Derived.Deep.DeepCutAuto
import Derived.Deep.CutBlock
import Derived.Deep.LoopGhost
import Derived.Deep.QuietTactic
import Derived.BigQuiet
import Derived.Deep.RegionHeld3
import Derived.Deep.RegionLaw
set_option linter.unusedVariables false
set_option linter.unusedSimpArgs false
namespace Go.Proofs.Ytjlonfldcmcchaa
open Go.RowKit
set_option maxRecDepth 100000 in
set_option maxHeartbeats 4000000 in
theorem sinkorder_walk (A : Option Addr) (n c : Nat) (xs : List Int) (A' : Option Addr) (m c' : Nat) (ys : List Int) (w : World) (hr : RdL (Enc.num .u8) w (.slice A n c) xs) (hok : ∀ x ∈ xs, (Lit.int .u8 x).wf = true) (hr' : RdL (Enc.num .u8) w (.slice A' m c') ys) (hok' : ∀ x ∈ ys, (Lit.int .u8 x).wf = true) :
    Calls Try.prog 7 #[.slice A n c, .slice A' m c'] w fun e w' => e = .returned (.bool true) ∧ Below w.heap.size w w' := by
  have hcap := hr.caps.2
  have hn := Lib.hid hr.caps.1
  have hcap' := hr'.caps.2
  have hm := Lib.hid hr'.caps.1
  replace hr := Lib.hid hr
  replace hok := Lib.hid hok
  replace hr' := Lib.hid hr'
  replace hok' := Lib.hid hok'
  rcases (show (60 : Int) < (n : Int) ∨ ((n : Int) ≤ 60 ∧ (60 : Int) < (m : Int)) ∨ ((n : Int) ≤ 60 ∧ (m : Int) ≤ 60) by omega) with hb | ⟨hb, hb2⟩ | ⟨hb, hb2⟩
  · go_enter Try.func7, Try.ntmps7
    go_wp2_with fail
    refine (known8 w w _ (Hs.start w)).mono ?_
    rintro e w1 ⟨rfl, H⟩
    go_wp2_with fail
    go_ret
    exact ⟨rfl, below_of H⟩
  · go_enter Try.func7, Try.ntmps7
    go_wp2_with fail
    refine (known8 w w _ (Hs.start w)).mono ?_
    rintro e w1 ⟨rfl, H⟩
    go_wp2_with fail
    go_ret
    exact ⟨rfl, below_of H⟩
  · go_enter Try.func7, Try.ntmps7
    go_wp2_with fail
    refine (known8 w w _ (Hs.start w)).mono ?_
    rintro e w1 ⟨rfl, H⟩
    go_wp2_with fail
    refine (new10 _ w _ H).mono ?_
    rintro e w1 ⟨pl, rfl, H⟩
    have h60 : n ≤ 60 := by omega
    have hm60 : m ≤ 60 := by omega
    rw [OL.new] at H
    have H0 : Hid (Hs w ((w1.alloc (.cells #[.slice none 0 0, .slice none 0 0, .slice none 0 0] 55)).alloc (.cells #[.int .i64 0, .int .i64 0, .int .i64 0] 56)) [Ds (w1.heap.size + 1) 56 (fun _ => 0), Arr3 w1.heap.size 55 (fun _ => []), Log pl (OL (fun _ => []) (fun _ => 0) []), Ls ERec 39 (.slice none 0 0) [], Old w]) := by
      have h1 := ((((H.at1.at1.ls_nil ERec 39).at1.ls_nil ERec 39).ls_nil ERec 39).ls_nil ERec 39).alloc (.cells #[.slice none 0 0, .slice none 0 0, .slice none 0 0] 55)
      have h2 := (Arr3.mk_ (S := fun _ => []) (fun _ => .slice none 0 0) h1).alloc (.cells #[.int .i64 0, .int .i64 0, .int .i64 0] 56)
      rw [show (w1.alloc (.cells #[.slice none 0 0, .slice none 0 0, .slice none 0 0] 55)).heap.size = w1.heap.size + 1 from Array.size_push ..] at h2
      exact h2
    go_wp2_with fail
    clear H
    generalize w1.heap.size + 1 = b7 at *
    generalize w1.heap.size = b6 at *
    generalize World.alloc _ _ = w2 at H0 ⊢
    go_loopg [8, 9] n (fun k wv iv wr => ∃ (j : Nat) (S : Nat → List Rec) (D : Nat → Nat) (W : List Rec) (Aw : Option Addr) (cw : Nat), k + j = n ∧ iv = .int .i64 j ∧ wv = .slice Aw W.length cw ∧ Hid (O3 S D W j) ∧ Hid (Hs w wr [Ds b7 56 D, Arr3 b6 55 S, Log pl (OL S D W), Ls ERec 39 (.slice Aw W.length cw) W, Old w]))
    case atStart => exact ⟨0, _, _, [], none, 0, by omega, rfl, rfl, ⟨by simp, by simp, by simp⟩, H0.out⟩
    case round =>
      clear H0
      obtain ⟨j, S, D, W, Aw, cw, hk, rfl, rfl, ho3, H⟩ := hrel
      have hjn : j ≤ n := by omega
      replace hk := Lib.hid hk
      rcases Nat.lt_or_ge j n with hj | hj
      · have hj0 : (0 : Int) ≤ (j : Int) := by omega
        have hj1 : (j : Int) < (n : Int) := by omega
        obtain ⟨x, hx⟩ : ∃ x, xs[j]? = some x := ⟨_, List.getElem?_eq_getElem (by have := hn.out; omega)⟩
        obtain ⟨hx0, hx1⟩ := u8_at (hok.out x (List.mem_of_getElem? hx))
        have hrd := hr.out.old H.out.at4
        obtain ⟨g, off, rfl⟩ := hrd.some_ (by have := hn.out; omega)
        have cx : wr.cell? ⟨g, off + j, none⟩ = some (.int .u8 x) := by have := hrd.cell hx 0 rfl; simpa [Enc.num] using this
        obtain ⟨p, hpx⟩ : ∃ p : Nat, x % 3 = (p : Int) := ⟨(x % 3).toNat, by omega⟩
        have hp3 : p < 3 := by omega
        have hxw : IntKind.i64.wrap x = x := IntWalk.i64_in _ (by omega)
        have hpt : x.tmod 3 = (p : Int) := by rw [Int.tmod_eq_emod_of_nonneg hx0]; exact hpx
        have hp30 : (0 : Int) ≤ (p : Int) := by omega
        have hp31 : (p : Int) < 3 := by omega
        obtain ⟨A6, c6, cs, Q, hcs, H1, hclose, hset⟩ := Arr3.focus H.out.at1 p hp3
        have hl := ho3.out.len p
        obtain ⟨L, hL⟩ : ∃ L, (S p).length = L := ⟨_, rfl⟩
        rw [hL] at hl hcs H1
        replace hL := Lib.hid hL
        have c6p : wr.cell? ⟨b6, p, none⟩ = some (.slice A6 L c6) := H1.cellOf p hcs
        obtain ⟨T, hT⟩ : ∃ T, T = L + 1 := ⟨_, rfl⟩
        have hT1 : IntKind.i64.wrap ((L : Int) + 1) = (T : Int) := by rw [IntWalk.i64_in _ (by omega)]; omega
        have hT2 : IntKind.u64.wrap (T : Int) = (T : Int) := IntWalk.u64_in _ (by omega)
        replace hT := Lib.hid hT
        replace hx := Lib.hid hx
        replace hclose := Lib.hid hclose
        replace hset := Lib.hid hset
        replace H1 := Lib.hid H1
        clear hrd H
        go_wp2_with fail
        have H2 := H1.out.alloc (.cells #[.int .i64 p, .int .i64 T, .int .i64 j] 39)
        clear c6p H1 cx
        generalize World.alloc wr _ = wa at *
        generalize wr.heap.size = bx at *
        obtain ⟨r, hrdef⟩ : ∃ r : Rec, r = ((p : Int), (T : Int), (j : Int)) := ⟨_, rfl⟩
        have SS : Hid (∀ (w' : World) (R' : List HP), Hs w w' (Blk bx (.cells #[.int .i64 p, .int .i64 T, .int .i64 j] 39 (0, 0)) :: Blk b6 (.cells cs 55 (0, 0)) :: R') → w'.cell? ⟨b6, p, none⟩ = some (.slice A6 L c6) ∧ w'.cell? ⟨bx, 0, none⟩ = some (.int .i64 p) ∧ w'.cell? ⟨bx, 1, none⟩ = some (.int .i64 T) ∧ w'.cell? ⟨bx, 2, none⟩ = some (.int .i64 j)) :=
          fun w' R' h => ⟨h.at1.cellOf p hcs, h.cellOf 0 rfl, h.cellOf 1 rfl, h.cellOf 2 rfl⟩
        have hst := Lib.hid (OL.stage S D W p T hp3 (by rw [hT.out, hL.out]) r)
        have hok3 := Lib.hid ho3.out.ok
        replace H2 := Lib.hid H2
        replace hrdef := Lib.hid hrdef
        replace hcs := Lib.hid hcs
        go_region_held3 (fun w' => w'.cell? ⟨b6, p, none⟩ = some (.slice A6 L c6) ∧ w'.cell? ⟨bx, 0, none⟩ = some (.int .i64 p) ∧ w'.cell? ⟨bx, 1, none⟩ = some (.int .i64 T) ∧ w'.cell? ⟨bx, 2, none⟩ = some (.int .i64 j))
          (first | exact SS.out _ _ H2.out.drew | exact SS.out _ _ (H2.out.drew.alloc_ _) | exact SS.out _ _ K1)
          (first | (go_at_call 11; refine (stage_tot pl p T (OL S D W) _ _ _ w _ ((H2.out.drew.ls_lit ERec 39 [r, r] _ (by rw [hrdef.out]; rfl) 2 rfl (by omega)).at6) hok3.out (by omega) (.slice (some ⟨wa.drew.heap.size, 0, none⟩) 2 2) [r, r] (fun w' h => h.ls_rd) (by simp) (by omega)).mono ?_; rw [hst.out.1, hst.out.2]; rintro e w3 ⟨rfl, K1⟩; replace K1 := K1.at1.tail.at2.at2))
        clear H2
        go_wp2_with fail
        refine wp_region_left (S := fun w' : World => w'.cell? ⟨b6, p, none⟩ = some (.slice A6 L c6) ∧ w'.cell? ⟨bx, 0, none⟩ = some (.int .i64 p) ∧ w'.cell? ⟨bx, 1, none⟩ = some (.int .i64 T) ∧ w'.cell? ⟨bx, 2, none⟩ = some (.int .i64 j)) 8 mixed ?_
        have hS : (fun w' : World => w'.cell? ⟨b6, p, none⟩ = some (.slice A6 L c6) ∧ w'.cell? ⟨bx, 0, none⟩ = some (.int .i64 p) ∧ w'.cell? ⟨bx, 1, none⟩ = some (.int .i64 T) ∧ w'.cell? ⟨bx, 2, none⟩ = some (.int .i64 j)) w3.drew := by exact SS.out _ _ K1.drew
        refine Left.pure (i := 0) (v := ?v16_0) rfl (by kernel_rfl) (fun _ _ _ h => h) (Or.inr hS) (Or.inl ⟨by rfl, fun w _ => ?hy16_0⟩) ?rest16_0
        case hy16_0 => (go_simp; try with_reducible rfl)
        try simp only [Act.put, List.setIfInBounds_toArray, List.set_cons_zero, List.set_cons_succ]
        refine Left.pure (i := 1) (v := ?v16_1) rfl (by kernel_rfl) (fun _ _ _ h => h) (Or.inr hS) (Or.inl ⟨by rfl, fun w _ => ?hy16_1⟩) ?rest16_1
        case hy16_1 => (go_simp; try with_reducible rfl)
        try simp only [Act.put, List.setIfInBounds_toArray, List.set_cons_zero, List.set_cons_succ]
        refine Left.pure (i := 2) (v := ?v16_2) rfl (by kernel_rfl) (fun _ _ _ h => h) (Or.inr hS) (Or.inl ⟨by rfl, fun w _ => ?hy16_2⟩) ?rest16_2
        case hy16_2 => (go_simp; try with_reducible rfl)
        try simp only [Act.put, List.setIfInBounds_toArray, List.set_cons_zero, List.set_cons_succ]
        refine Left.take (i := 3) (v := ?v16_3) rfl (by kernel_rfl) (fun _ _ _ h => h) hS (Or.inl ⟨by rfl, fun w hSw => ?hy16_3⟩) ?rest16_3
        case hy16_3 => ((try dsimp only at hSw); go_simp; try with_reducible rfl)
        try simp only [Act.put, List.setIfInBounds_toArray, List.set_cons_zero, List.set_cons_succ]
        refine Left.take (i := 4) (v := ?v16_4) rfl (by kernel_rfl) (fun _ _ _ h => h) hS (Or.inl ⟨by rfl, fun w hSw => ?hy16_4⟩) ?rest16_4
        case hy16_4 => ((try dsimp only at hSw); go_simp; try with_reducible rfl)
        try simp only [Act.put, List.setIfInBounds_toArray, List.set_cons_zero, List.set_cons_succ]
        refine Left.run (i := 5) rfl (by kernel_rfl) (fun K hK => ?_)
        have H4 := K1.drew.alloc (.cells #[.int .i64 p, .int .i64 T, .int .i64 j] 39)
        go_simp
        replace hS : (fun w' : World => w'.cell? ⟨b6, p, none⟩ = some (.slice A6 L c6) ∧ w'.cell? ⟨bx, 0, none⟩ = some (.int .i64 p) ∧ w'.cell? ⟨bx, 1, none⟩ = some (.int .i64 T) ∧ w'.cell? ⟨bx, 2, none⟩ = some (.int .i64 j)) (w3.drew.alloc (.cells #[.int .i64 p, .int .i64 T, .int .i64 j] 39)) := by exact SS.out _ _ (K1.drew.alloc_ _)
        refine hK.out _ _ (Or.inr hS) ?_
        clear hK K
        try simp only [Act.put, List.setIfInBounds_toArray, List.set_cons_zero, List.set_cons_succ]
        refine Left.run (i := 6) rfl (by kernel_rfl) (fun K hK => ?_)
        refine step_append_box (E := ERec) (v := .slice A6 L c6) (by rfl) (.tmp 62) (.tmp 64) 29 (by rfl) 39 _ 3 24 Try.underlying29 infoc29 rfl (by decide) (by decide) rfl (by rfl) (by rfl) ((K1.drew.alloc_ _).at3) ((p : Int), (T : Int), (j : Int)) (by exact RdL.boxAt _ (by simp)) (by rw [hL.out]; omega) ?_
        intro A7 c7 w5 H5
        rw [hL.out] at H5
        rw [hL.out]
        replace hS : (fun w' : World => w'.cell? ⟨b6, p, none⟩ = some (.slice A6 L c6) ∧ w'.cell? ⟨bx, 0, none⟩ = some (.int .i64 p) ∧ w'.cell? ⟨bx, 1, none⟩ = some (.int .i64 T) ∧ w'.cell? ⟨bx, 2, none⟩ = some (.int .i64 j)) w5 := by exact SS.out _ _ H5.at1.at2.at1
        refine hK.out _ _ (Or.inr hS) ?_
        clear hK K
        try simp only [Act.put, List.setIfInBounds_toArray, List.set_cons_zero, List.set_cons_succ]
        refine Left.pure (i := 7) (v := ?v16_7) rfl (by kernel_rfl) (fun _ _ _ h => h) (Or.inr hS) (Or.inl ⟨by rfl, fun w _ => ?hy16_7⟩) ?rest16_7
        case hy16_7 => (go_simp; try with_reducible rfl)
        try simp only [Act.put, List.setIfInBounds_toArray, List.set_cons_zero, List.set_cons_succ]
        refine Left.run (i := 8) rfl (by kernel_rfl) (fun K hK => ?_)
        have f0 := H5.at2.frozenOf p
        have d0 := H5.at2.cellOf p hcs.out
        go_simp
        refine hK.out _ _ (Or.inl (by kernel_rfl)) ?_
        clear hK K
        try simp only [Act.put, List.setIfInBounds_toArray, List.set_cons_zero, List.set_cons_succ]
        refine Left.done (by kernel_rfl) ?_ _

        have H6 := H5.at2.setCell (i := p) (.slice A7 (L + 1) c7)
        clear f0 d0
        generalize World.setCell _ _ _ = w6 at H6 ⊢
        have H7 := hset.out _ _ _ _ _ H6.at4.at2.at2
        have ho4 := Lib.hid (ho3.out.stage p r)
        have hdef : ((p : Int), (T : Int), (j : Int)) = r := hrdef.out.symm
        rw [hdef] at H7
        replace H7 := Lib.hid (H7.at1.tail.at2.at1.at2.at1.at2)
        clear hclose hset hst hok3 SS hdef hcs H5 H6
        generalize set3 S p (S p ++ [r]) = S1 at *
        clear hL hT hT1 hT2 hl
        have fin : Hid (∀ (w' : World) (D' : Nat → Nat) (W' : List Rec) (Aw' : Option Addr) (cw' : Nat), O3 S1 D' W' (j + 1) → Hs w w' [Ds b7 56 D', Arr3 b6 55 S1, Log pl (OL S1 D' W'), Ls ERec 39 (.slice Aw' W'.length cw') W', Old w] → ∃ (j' : Nat) (S : Nat → List Rec) (D : Nat → Nat) (W : List Rec) (Aw : Option Addr) (cw : Nat), n - (j + 1) + j' = n ∧ Value.int .i64 ((j : Int) + 1) = .int .i64 j' ∧ Value.slice Aw' W'.length cw' = .slice Aw W.length cw ∧ Hid (O3 S D W j') ∧ Hid (Hs w w' [Ds b7 56 D, Arr3 b6 55 S, Log pl (OL S D W), Ls ERec 39 (.slice Aw W.length cw) W, Old w])) :=
          fun w' D' W' Aw' cw' h1 h2 => ⟨j + 1, S1, D', W', Aw', cw', by omega, rfl, rfl, h1, h2⟩
        rcases Nat.lt_or_ge j m with hjm | hjm
        · have hjm1 : (j : Int) < (m : Int) := by omega
          have hjm2 : decide ((m : Int) ≤ (j : Int)) = false := by rw [decide_eq_false_iff_not]; omega
          obtain ⟨y, hy⟩ : ∃ y, ys[j]? = some y := ⟨_, List.getElem?_eq_getElem (by have := hm.out; omega)⟩
          obtain ⟨hy0, hy1⟩ := u8_at (hok'.out y (List.mem_of_getElem? hy))
          have hrd' := hr'.out.old H7.out.at4
          obtain ⟨g', off', rfl⟩ := hrd'.some_ (by have := hm.out; omega)
          have cy : w6.cell? ⟨g', off' + j, none⟩ = some (.int .u8 y) := by have := hrd'.cell hy 0 rfl; simpa [Enc.num] using this
          replace hy := Lib.hid hy
          clear hrd'
          cases h3 : (y % 3 == 0) with
          | true =>
            replace h3 := Lib.hid h3
            have h3' := h3.out
            go_wp2_with fail
            go_roundg (n - (j + 1))
            case measure => have := hk.out; omega
            case rel => exact fin.out _ D W Aw cw ho4.out H7.out
          | false =>
            replace h3 := Lib.hid h3
            have h3' := h3.out
            obtain ⟨e3, he3⟩ : ∃ e : Nat, y / 3 = (e : Int) := ⟨(y / 3).toNat, by omega⟩
            obtain ⟨e9, he9⟩ : ∃ e : Nat, y / 9 = (e : Int) := ⟨(y / 9).toNat, by omega⟩
            have he3t : y.tdiv 3 = (e3 : Int) := by rw [Int.tdiv_eq_ediv_of_nonneg hy0]; exact he3
            have he9t : y.tdiv 9 = (e9 : Int) := by rw [Int.tdiv_eq_ediv_of_nonneg hy0]; exact he9
            have he3w : IntKind.i64.wrap (e3 : Int) = (e3 : Int) := IntWalk.i64_in _ (by omega)
            have he9w : IntKind.i64.wrap (e9 : Int) = (e9 : Int) := IntWalk.i64_in _ (by omega)
            have hyw : IntKind.i64.wrap y = y := IntWalk.i64_in _ (by omega)
            obtain ⟨q, hq⟩ : ∃ q : Nat, (e3 : Int) % 3 = (q : Int) := ⟨((e3 : Int) % 3).toNat, by omega⟩
            have hq3 : q < 3 := by omega
            have hqt : (e3 : Int).tmod 3 = (q : Int) := by rw [Int.tmod_eq_emod_of_nonneg (by omega)]; exact hq
            have hq30 : (0 : Int) ≤ (q : Int) := by omega
            have hq31 : (q : Int) < 3 := by omega
            obtain ⟨A8, c8, cs, Q2, hcs, H8, hclose, hset⟩ := Arr3.focus H7.out.at1 q hq3
            have hdl := ho4.out.dn q
            have hll := ho4.out.len q
            obtain ⟨L, hL⟩ : ∃ L, (S1 q).length = L := ⟨_, rfl⟩
            rw [hL] at hdl hll hcs H8
            replace hL := Lib.hid hL
            have c6q : w6.cell? ⟨b6, q, none⟩ = some (.slice A8 L c8) := H8.cellOf q hcs
            have c7q : w6.cell? ⟨b7, q, none⟩ = some (.int .i64 (D q)) := Ds.cell H7.out q hq3
            obtain ⟨d, hd⟩ : ∃ d, D q = d := ⟨_, rfl⟩
            rw [hd] at c7q hdl
            obtain ⟨s, hs⟩ : ∃ s, s = L - d := ⟨_, rfl⟩
            have hs1 : IntKind.i64.wrap ((L : Int) - (d : Int)) = (s : Int) := by rw [IntWalk.i64_in _ (by omega)]; omega
            have hs2 : IntKind.i64.wrap ((s : Int) + 1) = (s : Int) + 1 := IntWalk.i64_in _ (by omega)
            have hsz : ((s : Int) + 1 == 0) = false := by rw [beq_eq_false_iff_ne]; omega
            have hsz2 : (s : Int) + 1 ≠ 0 := by omega
            obtain ⟨u, hu⟩ : ∃ u : Nat, (e9 : Int) % ((s : Int) + 1) = (u : Int) := ⟨((e9 : Int) % ((s : Int) + 1)).toNat, by have := Int.emod_nonneg (e9 : Int) hsz2; omega⟩
            have hus : u ≤ s := by have := Int.emod_lt_of_pos (e9 : Int) (show (0 : Int) < (s : Int) + 1 by omega); omega
            have hut : (e9 : Int).tmod ((s : Int) + 1) = (u : Int) := by rw [Int.tmod_eq_emod_of_nonneg (by omega)]; exact hu
            obtain ⟨nn, hnn⟩ : ∃ nn, nn = d + u := ⟨_, rfl⟩
            have hnn1 : IntKind.i64.wrap ((d : Int) + (u : Int)) = (nn : Int) := by rw [IntWalk.i64_in _ (by omega)]; omega
            have hnL : nn ≤ L := by omega
            have hdn : d ≤ nn := by omega
            have hnu : IntKind.u64.wrap (nn : Int) = (nn : Int) := IntWalk.u64_in _ (by omega)
            replace hd := Lib.hid hd
            replace hcs := Lib.hid hcs
            clear hs hnn
            by_cases hn0 : nn = 0
            · have hnb : ((nn : Int) == 0) = true := by rw [beq_iff_eq]; omega
              clear hn0
              go_wp2_with fail
              go_quiet (fail)
              go_wp2_with fail
              generalize hw7 : World.drewN w6 _ = w7
              obtain ⟨kk, hw7⟩ : ∃ kk, World.drewN w6 kk = w7 := ⟨_, hw7⟩
              replace H7 := H7.out.drewN kk
              rw [hw7] at H7
              go_roundg (n - (j + 1))
              case measure => have := hk.out; omega
              case rel => exact fin.out _ D W Aw cw ho4.out H7
            · have hnb : ((nn : Int) == 0) = false := by rw [beq_eq_false_iff_ne]; omega
              have hnpos : 0 < nn := by omega
              clear hn0
              go_wp2_with fail
              go_quiet (fail)
              have hcm := Lib.hid (OL.cm S1 D W q nn hq3 hnpos (by rw [hd.out]; exact hdn) (by rw [hL.out]; exact hnL))
              have hok4 := Lib.hid ho4.out.ok
              have hW3 := ho3.out.wl
              have hW4 := Lib.hid (ho4.out.commit (by omega) q nn (by rw [hL.out]; exact hnL))
              clear H8 hclose hset hcs
              go_wp2_with fail
              refine (commit_tot pl q nn (OL S1 D W) _ _ _ w _ (H7.out.drewN _).at2 hok4.out (by omega) (by omega)).mono ?_
              rw [hcm.out.1, hcm.out.2, hd.out]
              rintro e w8 ⟨rfl, H8⟩
              have H9 : Hid (Hs w w8 [Ds b7 56 (set3 D q d), Arr3 b6 55 S1, Log pl (OL S1 (set3 D q nn) (W ++ seg (S1 q) d nn)), Ls ERec 39 (.slice Aw W.length cw) W, Old w]) := by
                rw [← hd.out, set3_id, hd.out]
                exact H8.at2.at2
              clear H8 H7 cy c6q c7q hcm hok4
              go_wp2_with fail
              go_loopg [8] (nn - d) (fun k wv wq => ∃ (i : Nat) (V : List Rec) (Av : Option Addr) (cv : Nat), k + i = nn ∧ d ≤ i ∧ wv = .slice Av V.length cv ∧ Hid (V = W ++ seg (S1 q) d i) ∧ Hid (Hs w wq [Ds b7 56 (set3 D q i), Arr3 b6 55 S1, Log pl (OL S1 (set3 D q nn) (W ++ seg (S1 q) d nn)), Ls ERec 39 (.slice Av V.length cv) V, Old w]))
              case atStart => exact ⟨d, W, Aw, cw, by omega, Nat.le_refl _, rfl, by show _ = _; rw [seg.self, List.append_nil], H9⟩
              case round =>
                clear H9
                obtain ⟨i, V, Av, cv, hki, hdi, rfl, hV, H9⟩ := hrel
                have hin : i ≤ nn := by omega
                replace hki := Lib.hid hki
                have c7q : wr.cell? ⟨b7, q, none⟩ = some (.int .i64 i) := by have := Ds.cell H9.out q hq3; rwa [set3_same] at this
                rcases Nat.lt_or_ge i nn with hi | hi
                · have hi0 : (0 : Int) ≤ (i : Int) := by omega
                  have hi1 : (i : Int) < (nn : Int) := by omega
                  have hi2 : (i : Int) < (L : Int) := by omega
                  obtain ⟨A8, c8, cs, Q2, hcs, H10, hclose, _⟩ := Arr3.focus H9.out.at1 q hq3
                  rw [hL.out] at hcs H10
                  have hl8 := H10.at1.ls_rd.caps.2
                  obtain ⟨x, hx⟩ : ∃ x, (S1 q)[i]? = some x := ⟨_, List.getElem?_eq_getElem (by have := hL.out; omega)⟩
                  obtain ⟨g8, o8, rfl⟩ := H10.at1.ls_rd.some_ (by have := hL.out; omega)
                  have hseg : Hid (V ++ [x, x] = W ++ seg (S1 q) d (i + 1)) := by
                    show _ = _
                    have hil : i < (S1 q).length := (List.getElem?_eq_some_iff.1 hx).1
                    rw [seg.succ _ _ _ hdi hil, hV.out, List.append_assoc, (List.getElem?_eq_some_iff.1 hx).2]
                  have hVl : Hid (V.length ≤ 14000) := by
                    show _ ≤ _
                    have := seg.few (S1 q) d i
                    rw [hV.out, List.length_append]
                    have := hL.out
                    omega
                  have SS : Hid (∀ (w' : World) (R' : List HP), Hs w w' (Ds b7 56 (set3 D q i) :: Blk b6 (.cells cs 55 (0, 0)) :: Ls ERec 39 (.slice (some ⟨g8, o8, none⟩) L c8) (S1 q) :: R') → w'.cell? ⟨b6, q, none⟩ = some (.slice (some ⟨g8, o8, none⟩) L c8) ∧ w'.cell? ⟨b7, q, none⟩ = some (.int .i64 i) ∧ w'.cell? ⟨g8, o8 + i * 3, none⟩ = some (.int .i64 x.1) ∧ w'.cell? ⟨g8, o8 + i * 3 + 1, none⟩ = some (.int .i64 x.2.1) ∧ w'.cell? ⟨g8, o8 + i * 3 + 2, none⟩ = some (.int .i64 x.2.2)) :=
                    fun w' R' h => ⟨h.at1.cellOf q hcs, by have := Ds.cell h q hq3; rwa [set3_same] at this, h.at2.ls_rd.cell hx 0 rfl, h.at2.ls_rd.cell hx 1 rfl, h.at2.ls_rd.cell hx 2 rfl⟩
                  have K0 := Lib.hid H10.at3
                  obtain ⟨i', hi'⟩ : ∃ i', i' = i + 1 := ⟨_, rfl⟩
                  have hi4 : IntKind.i64.wrap ((i : Int) + 1) = (i' : Int) := by rw [IntWalk.i64_in _ (by omega)]; omega
                  replace hi' := Lib.hid hi'
                  replace hclose := Lib.hid hclose
                  replace hcs := Lib.hid hcs
                  replace hx := Lib.hid hx
                  clear H10 H9
                  go_wp2_with fail
                  go_region_held3 (fun w' => w'.cell? ⟨b6, q, none⟩ = some (.slice (some ⟨g8, o8, none⟩) L c8) ∧ w'.cell? ⟨b7, q, none⟩ = some (.int .i64 i) ∧ w'.cell? ⟨g8, o8 + i * 3, none⟩ = some (.int .i64 x.1) ∧ w'.cell? ⟨g8, o8 + i * 3 + 1, none⟩ = some (.int .i64 x.2.1) ∧ w'.cell? ⟨g8, o8 + i * 3 + 2, none⟩ = some (.int .i64 x.2.2))
                    (first | exact SS.out _ _ K0.out.drew | exact SS.out _ _ (K0.out.drew.alloc_ _) | exact SS.out _ _ K1)
                    (first | (refine step_appendL (E := ERec) (v := .slice Av V.length cv) (by rfl) (.tmp 124) (.tmp 141) 29 (by rfl) 39 _ 3 24 Try.underlying29 infoc29 rfl (by decide) (by decide) rfl (by rfl) (.slice (some ⟨wr.drew.heap.size, 0, none⟩) 2 2) (by rfl) ((K0.out.drew.ls_lit ERec 39 [x, x] _ (by rfl) 2 rfl (by omega)).at6) (K0.out.drew.ls_lit ERec 39 [x, x] _ (by rfl) 2 rfl (by omega)).ls_rd (by have := hVl.out; simp; omega) ?_; intro A10 c10 w10 K1; replace K1 := K1.at4.at4.at4))
                  have c7 := (SS.out _ _ K1).2.1
                  have f7 := Ds.frozen K1 q
                  have K2 := Ds.set K1 q hq3 i'
                  clear c7q
                  go_wp2_with fail
                  rw [set3_set3, ← hL.out] at K2
                  have K3 := (hclose.out _ _ _ K2.at5.at3.at3).at1.at3.tail.at3.at2.at2
                  go_roundg (nn - i')
                  case measure => have := hki.out; have := hi'.out; omega
                  case rel =>
                    refine ⟨i', V ++ [x, x], A10, c10, by have := hi'.out; omega, by have := hi'.out; omega, by simp, by rw [hi'.out]; exact hseg, ?_⟩
                    show Hs _ _ _
                    rw [List.length_append]
                    exact K3
                · have hi1 : decide ((i : Int) < (nn : Int)) = false := by rw [decide_eq_false_iff_not]; omega
                  have hi3 : decide (i < nn) = false := by rw [decide_eq_false_iff_not]; omega
                  obtain rfl : i = nn := by omega
                  clear hi
                  go_wp2_with fail
                  go_roundg (n - (j + 1))
                  case measure => have := hk.out; omega
                  case rel => exact fin.out _ (set3 D q i) V Av cv (by have h1 := hW4.out; rw [hd.out, ← hV.out] at h1; exact h1) (by have h2 := H9.out; rw [← hV.out] at h2; exact h2)
        · have hjm1 : decide ((m : Int) ≤ (j : Int)) = true := by rw [decide_eq_true_iff]; omega
          have hjm2 : decide (m ≤ j) = true := by rw [decide_eq_true_iff]; omega
          clear hjm
          go_wp2_with fail
          go_roundg (n - (j + 1))
          case measure => have := hk.out; omega
          case rel => exact fin.out _ D W Aw cw ho4.out H7.out
      · obtain rfl : j = n := by omega
        clear hj
        go_wp2_with fail
        go_loopg [14] 3 (fun k iv wq => ∃ (p : Nat), k + p = 3 ∧ iv = .int .i64 p ∧ Hid (Hs w wq [Ds b7 56 D, Arr3 b6 55 S, Log pl (OL S D W), Ls ERec 39 (.slice Aw W.length cw) W, Old w]))
        case atStart => exact ⟨0, rfl, rfl, H⟩
        case round =>
          clear H
          obtain ⟨p, hkp, rfl, H⟩ := hrel
          have hp4 : p ≤ 3 := by omega
          replace hkp := Lib.hid hkp
          rcases Nat.lt_or_ge p 3 with hp3 | hp3
          · have hp30 : (0 : Int) ≤ (p : Int) := by omega
            have hp31 : (p : Int) < 3 := by omega
            obtain ⟨A6, c6, cs, Q, hcs, H1, hclose, _⟩ := Arr3.focus H.out.at1 p hp3
            have hl := ho3.out.len p
            have hd := ho3.out.dn p
            have hok3 := ho3.out.ok
            have hpt := OL.pt S D W p hp3
            obtain ⟨L, hL⟩ : ∃ L, (S p).length = L := ⟨_, rfl⟩
            obtain ⟨d, hdd⟩ : ∃ d, D p = d := ⟨_, rfl⟩
            rw [hL] at hl hcs H1
            rw [hL, hdd] at hd
            obtain ⟨s, hs⟩ : ∃ s, s = L - d := ⟨_, rfl⟩
            obtain ⟨LL, hLL⟩ : ∃ x, x = 2 * L := ⟨_, rfl⟩
            obtain ⟨DD, hDD⟩ : ∃ x, x = 2 * d := ⟨_, rfl⟩
            have w1 : IntKind.i64.wrap ((L : Int) - (d : Int)) = (s : Int) := by rw [IntWalk.i64_in _ (by omega)]; omega
            have w2 : IntKind.i64.wrap (2 * (L : Int)) = (LL : Int) := by rw [IntWalk.i64_in _ (by omega)]; omega
            have w3 : IntKind.i64.wrap (2 * (d : Int)) = (DD : Int) := by rw [IntWalk.i64_in _ (by omega)]; omega
            have w4 : IntKind.u64.wrap (L : Int) = (L : Int) := IntWalk.u64_in _ (by omega)
            have w5 : IntKind.u64.wrap (d : Int) = (d : Int) := IntWalk.u64_in _ (by omega)
            have o1 := Lib.hid (hok3.pt (by omega) p)
            have o2 : Hid ((((OL S D W).pt (p : Int)).l.flatMap (·.2)).length ≤ 1000000) := by have := hok3.flat p; show _ ≤ _; omega
            have e1 : Hid (((OL S D W).pt (p : Int)).last = (d : Int)) := by show _ = _; rw [hpt, txs.last _ _ (by omega), hdd]
            have e2 : Hid (((OL S D W).pt (p : Int)).staged.length = s) := by show _ = _; rw [hpt]; unfold Pt.staged; rw [List.length_map, List.length_drop, txs.length]; show (S p).length - D p = s; omega
            have e3 : Hid ((((OL S D W).pt (p : Int)).upto (L : Int)).length = LL) := by show _ = _; rw [hpt, txs.upto _ _ _ (by omega)]; omega
            have e4 : Hid ((((OL S D W).pt (p : Int)).upto (d : Int)).length = DD) := by show _ = _; rw [hpt, txs.upto _ _ _ (by omega)]; omega
            have SS : Hid (∀ (w' : World) (R' : List HP), Hs w w' (Ds b7 56 D :: Blk b6 (.cells cs 55 (0, 0)) :: R') → w'.cell? ⟨b6, p, none⟩ = some (.slice A6 L c6) ∧ w'.cell? ⟨b7, p, none⟩ = some (.int .i64 d)) :=
              fun w' R' h => ⟨h.at1.cellOf p hcs, by have := Ds.cell h p hp3; rwa [hdd] at this⟩
            have K0 := Lib.hid H1.at3
            replace hclose := Lib.hid hclose
            replace hL := Lib.hid hL
            clear hs hLL hDD hcs hok3 hpt H1 H hdd
            go_wp2_with fail
            go_region_held3 (fun w' => w'.cell? ⟨b6, p, none⟩ = some (.slice A6 L c6) ∧ w'.cell? ⟨b7, p, none⟩ = some (.int .i64 d))
              (first | exact SS.out _ _ K0.out.drew | exact SS.out _ _ K1 | exact SS.out _ _ K2 | exact SS.out _ _ K3 | exact SS.out _ _ K4)
              (first
                | (go_at_call 19; refine (last_any pl p (OL S D W) _ w _ K0.out.drew.at4 o1.out).mono ?_; rw [e1.out]; rintro e w6 ⟨rfl, K1⟩; replace K1 := K1.at2.at2)
                | (go_at_call 22; refine (staged22 pl p (OL S D W) _ w _ K1.at2 o1.out).mono ?_; rw [e2.out]; rintro e w7 ⟨A7, c7, rfl, K2⟩; replace K2 := K2.tail.at2.at2)
                | (go_at_call 24; refine (upto24 pl p d (OL S D W) _ w _ K3.at2 o1.out o2.out).mono ?_; rw [e4.out]; rintro e w9 ⟨A9, c9, rfl, K4⟩; replace K4 := K4.tail.at2.at2)
                | (go_at_call 24; refine (upto24 pl p L (OL S D W) _ w _ K2.at2 o1.out o2.out).mono ?_; rw [e3.out]; rintro e w8 ⟨A8, c8, rfl, K3⟩; replace K3 := K3.tail.at2.at2))
            go_wp2_with fail
            rw [← hL.out] at K4
            go_roundg (3 - (p + 1))
            case measure => have := hkp.out; omega
            case rel => exact ⟨p + 1, by omega, by go_num, (hclose.out _ _ _ (K4.at4.at4.at3)).at1⟩
          · obtain rfl : p = 3 := by omega
            have hwl := ho3.out.wl
            clear hp3 hkp
            go_wp2_with fail
            refine (all18 pl (OL S D W) _ w _ H.out.at2 (by show W.length ≤ _; omega)).mono ?_
            rintro e w5 ⟨A5, c5, rfl, H5⟩
            go_wp2_with fail
            refine (eqrec17 _ _ W W _ H5.ls_rd H5.at4.ls_rd).mono ?_
            rw [decide_eq_true rfl]
            rintro e w6 ⟨rfl, k6, rfl⟩
            go_wp2_with fail
            go_ret
            exact ⟨rfl, below_of (H5.drewN k6).tail.tail.tail.tail.tail⟩
end Go.Proofs.Ytjlonfldcmcchaa

import Derived.Test.YtjlonfldcmcchaaRb
import Derived.Test.YtjlonfldcmcchaaPn
import Derived.Test.YtjlonfldcmcchaaProg
import Derived.Test.YtjlonfldcmcchaaLs
import Derived.Outline
import Derived.StillTailTactics
import Derived.Deep.DeepCutAuto
import Derived.Deep.CutBlock
import Derived.Deep.LoopGhost
import Derived.Deep.QuietTactic
import Derived.BigQuiet
import Derived.Deep.RegionHeld3
import Derived.Deep.RegionLaw
set_option linter.unusedVariables false
set_option linter.unusedSimpArgs false
namespace Go.Proofs.Ytjlonfldcmcchaa
open Go.RowKit
set_option maxRecDepth 100000 in
theorem rstage12 (p : Nat) (n t : Int) (rv : Value) (recs : List Rec) (r : Rf) (w w0 : World) (R : List HP) (H : Hs w0 w (RLog p r :: R)) (hr : ∀ w', Hs w0 w' R → RdL ERec w' rv recs) (hrl : recs.length ≤ 1000000) (hb : r.l.length ≤ 1000000) :
    Calls Try.prog 12 #[.pointer (some ⟨p, 0, none⟩), .int .i64 n, .int .u64 t, rv] w fun e w' => e = .returned (.int .i64 (r.stE n t)) ∧ Hs w0 w' (RLog p (r.stage n t recs) :: R) := by
  have HC := Lib.hid H
  obtain ⟨A, c, A1, c1, zs, hl, H⟩ := RLog.open_ H
  obtain ⟨N, hN⟩ : ∃ N, zs.length = N := ⟨_, rfl⟩
  rw [hN] at H
  have hbN : N ≤ 1000000 := by rw [hl, List.length_map] at hb; omega
  have k0 : w.cell? ⟨p, 0, none⟩ = some (.slice A N c) := H.cellOf 0 rfl
  have hcap := H.at1.ls_rd.caps.2
  replace hN := Lib.hid hN
  replace hl := Lib.hid hl
  replace H := Lib.hid H
  replace hr := Lib.hid hr
  clear hb
  have no : Hid (∀ w', (r.l.any (fun x => x.1 == n && decide (x.2.1 ≥ t)) || t == 0) = true → Hs w0 w' (RLog p r :: R) → (Value.int .i64 170 = .int .i64 (r.stE n t)) ∧ Hs w0 w' (RLog p (r.stage n t recs) :: R)) := by
    intro w' h1 h2
    unfold Rf.stE Rf.stage
    rw [h1]
    exact ⟨rfl, h2⟩
  go_enter Try.func12, Try.ntmps12
  go_wp2_with fail
  go_loopg [9] N (fun k iv wr => ∃ (j : Nat), k + j = N ∧ iv = .int .i64 j ∧ Hid ((r.l.take j).any (fun x => x.1 == n && decide (x.2.1 ≥ t)) = false) ∧ wr = w)
  case atStart => exact ⟨0, rfl, rfl, by show _ = _; simp, rfl⟩
  case round =>
    obtain ⟨j, hk, rfl, ho, rfl⟩ := hrel
    have hjN : j ≤ N := by omega
    replace hk := Lib.hid hk
    rcases Nat.lt_or_ge j N with hj | hj
    · have hj0 : (0 : Int) ≤ (j : Int) := by omega
      have hj1 : (j : Int) < (N : Int) := by omega
      obtain ⟨z, hz⟩ : ∃ z, zs[j]? = some z := ⟨_, List.getElem?_eq_getElem (by have := hN.out; omega)⟩
      obtain ⟨g, off, rfl⟩ := H.out.at1.ls_rd.some_ (by have := hN.out; rw [List.length_map]; omega)
      obtain ⟨s0, s1, _, _⟩ := rt_cells H.out.at1.ls_rd hz
      have hrz : r.l[j]? = some (zm z) := by rw [hl.out, List.getElem?_map, hz]; rfl
      have hstep : Hid (r.l.take (j + 1) = r.l.take j ++ [zm z]) := by show _ = _; rw [List.take_add_one, hrz]; rfl
      replace hz := Lib.hid hz
      obtain ⟨⟨pz, nz, sl, dz⟩, rz⟩ := z
      simp only at s0 s1
      have hfin : Hid (∀ b, (pz == n && decide (nz ≥ t)) = b → (r.l.take (j + 1)).any (fun x => x.1 == n && decide (x.2.1 ≥ t)) = b) := by
        intro b hb
        rw [hstep.out, List.any_append, ho.out]
        simp only [zm, List.any_cons, hb, List.any_nil]
        cases b <;> rfl
      have hhit : Hid ((pz == n && decide (nz ≥ t)) = true → (r.l.any (fun x => x.1 == n && decide (x.2.1 ≥ t)) || t == 0) = true) := by
        intro hb
        have : r.l.any (fun x => x.1 == n && decide (x.2.1 ≥ t)) = true := by
          rw [List.any_eq_true]
          exact ⟨_, List.mem_of_getElem? hrz, hb⟩
        rw [this]
        rfl
      replace hrz := Lib.hid hrz
      by_cases hp : pz = n
      · subst hp
        by_cases hnt : t ≤ nz
        · have hb1 : decide (t ≤ nz) = true := by simpa using hnt
          have hb2 := Lib.hid hb1
          clear hnt
          go_wp2_with fail
          go_ret
          obtain ⟨e1, e2⟩ := no.out _ (hhit.out (by have := hb2.out; simp only [ge_iff_le, this]; simp)) HC.out
          exact ⟨by rw [← e1]; rfl, e2⟩
        · have hb1 : decide (t ≤ nz) = false := by simpa using hnt
          have hb2 := Lib.hid hb1
          clear hnt
          go_wp2_with fail
          go_roundg (N - (j + 1))
          case measure => have := hk.out; omega
          case rel => exact ⟨j + 1, by have := hk.out; omega, by go_num, hfin.out false (by have := hb2.out; simp only [ge_iff_le, this]; simp), rfl⟩
      · have hpb : (pz == n) = false := by rw [beq_eq_false_iff_ne]; exact hp
        have hpb' := Lib.hid hpb
        clear hp
        go_wp2_with fail
        go_roundg (N - (j + 1))
        case measure => have := hk.out; omega
        case rel => exact ⟨j + 1, by have := hk.out; omega, by go_num, hfin.out false (by rw [hpb'.out]; rfl), rfl⟩
    · have hj1 : decide ((j : Int) < (N : Int)) = false := by rw [decide_eq_false_iff_not]; omega
      have hj2 : decide (j < N) = false := by rw [decide_eq_false_iff_not]; omega
      have he : Hid (r.l.any (fun x => x.1 == n && decide (x.2.1 ≥ t)) = false) := by
        have h := ho.out
        rwa [List.take_of_length_le (by rw [hl.out, List.length_map]; have := hN.out; omega)] at h
      clear hj
      by_cases ht : t = 0
      · have hz : (t == 0) = true := by rw [beq_iff_eq]; exact ht
        have hz' := Lib.hid hz
        clear ht
        go_wp2_with fail
        go_ret
        obtain ⟨e1, e2⟩ := no.out _ (by rw [hz'.out]; simp) HC.out
        exact ⟨by rw [← e1]; rfl, e2⟩
      · have hz : (t == 0) = false := by rw [beq_eq_false_iff_ne]; exact ht
        have hz' := Lib.hid hz
        clear ht no
        have hlm : Hid ((zs.map (fun z : ZT => z.1)).length = N) := by show _ = _; rw [List.length_map]; exact hN.out
        replace H := H.out
        go_wp2_with fail
        refine wp_region_left (S := fun w' : World => w'.cell? ⟨p, 0, none⟩ = some (.slice A N c)) 14 mixed ?_
        have hS : (fun w' : World => w'.cell? ⟨p, 0, none⟩ = some (.slice A N c)) wr.drew := by exact H.drew.cellOf 0 rfl
        refine Left.pure (i := 0) (v := ?v8_0) rfl (by kernel_rfl) (fun _ _ _ h => h) (Or.inr hS) (Or.inl ⟨by rfl, fun w _ => ?hy8_0⟩) ?rest8_0
        case hy8_0 => (go_simp; try with_reducible rfl)
        try simp only [Act.put, List.setIfInBounds_toArray, List.set_cons_zero, List.set_cons_succ]
        refine Left.pure (i := 1) (v := ?v8_1) rfl (by kernel_rfl) (fun _ _ _ h => h) (Or.inr hS) (Or.inl ⟨by rfl, fun w _ => ?hy8_1⟩) ?rest8_1
        case hy8_1 => (go_simp; try with_reducible rfl)
        try simp only [Act.put, List.setIfInBounds_toArray, List.set_cons_zero, List.set_cons_succ]
        refine Left.pure (i := 2) (v := ?v8_2) rfl (by kernel_rfl) (fun _ _ _ h => h) (Or.inr hS) (Or.inl ⟨by rfl, fun w _ => ?hy8_2⟩) ?rest8_2
        case hy8_2 => (go_simp; try with_reducible rfl)
        try simp only [Act.put, List.setIfInBounds_toArray, List.set_cons_zero, List.set_cons_succ]
        refine Left.pure (i := 3) (v := ?v8_3) rfl (by kernel_rfl) (fun _ _ _ h => h) (Or.inr hS) (Or.inl ⟨by rfl, fun w _ => ?hy8_3⟩) ?rest8_3
        case hy8_3 => (go_simp; try with_reducible rfl)
        try simp only [Act.put, List.setIfInBounds_toArray, List.set_cons_zero, List.set_cons_succ]
        refine Left.take (i := 4) (v := ?v8_4) rfl (by kernel_rfl) (fun _ _ _ h => h) hS (Or.inl ⟨by rfl, fun w hSw => ?hy8_4⟩) ?rest8_4
        case hy8_4 => ((try dsimp only at hSw); go_simp; try with_reducible rfl)
        try simp only [Act.put, List.setIfInBounds_toArray, List.set_cons_zero, List.set_cons_succ]
        refine Left.pure (i := 5) (v := ?v8_5) rfl (by kernel_rfl) (fun _ _ _ h => h) (Or.inr hS) (Or.inl ⟨by rfl, fun w _ => ?hy8_5⟩) ?rest8_5
        case hy8_5 => (go_simp; try with_reducible rfl)
        try simp only [Act.put, List.setIfInBounds_toArray, List.set_cons_zero, List.set_cons_succ]
        refine Left.pure (i := 6) (v := ?v8_6) rfl (by kernel_rfl) (fun _ _ _ h => h) (Or.inr hS) (Or.inl ⟨by rfl, fun w _ => ?hy8_6⟩) ?rest8_6
        case hy8_6 => (go_simp; try with_reducible rfl)
        try simp only [Act.put, List.setIfInBounds_toArray, List.set_cons_zero, List.set_cons_succ]
        refine Left.pure (i := 7) (v := ?v8_7) rfl (by kernel_rfl) (fun _ _ _ h => h) (Or.inr hS) (Or.inl ⟨by rfl, fun w _ => ?hy8_7⟩) ?rest8_7
        case hy8_7 => (go_simp; try with_reducible rfl)
        try simp only [Act.put, List.setIfInBounds_toArray, List.set_cons_zero, List.set_cons_succ]
        refine Left.run (i := 8) rfl (by kernel_rfl) (fun K hK => ?_)
        simp only [Act.put, List.getElem_toArray, List.getElem_cons_zero, List.getElem_cons_succ, List.setIfInBounds_toArray, List.set_cons_zero, List.set_cons_succ]
        rw [if_pos (by rfl)]
        refine wp_appendL (E := ERec) (v := .slice none 0 0) (.const (.slice none 0 0)) (.tmp 50) 29 (by rfl) 39 _ 3 24 Try.underlying29 infoc29 rfl (by decide) (by decide) rfl (by rfl) rv (by rfl) (H.drew.ls_nil ERec 39) (hr.out _ H.drew.tail.tail.tail.tail) (by simp; omega) ?_
        intro A3 c3 w2 H1
        simp only [List.length_nil, Nat.zero_add, List.nil_append] at H1 ⊢
        replace hS : (fun w' : World => w'.cell? ⟨p, 0, none⟩ = some (.slice A N c)) w2 := by exact H1.at1.cellOf 0 rfl
        refine hK.out _ _ (Or.inr hS) ?_
        clear hK K
        try simp only [Act.put, List.setIfInBounds_toArray, List.set_cons_zero, List.set_cons_succ]
        refine Left.pure (i := 9) (v := ?v8_9) rfl (by kernel_rfl) (fun _ _ _ h => h) (Or.inr hS) (Or.inl ⟨by rfl, fun w _ => ?hy8_9⟩) ?rest8_9
        case hy8_9 => (go_simp; try with_reducible rfl)
        try simp only [Act.put, List.setIfInBounds_toArray, List.set_cons_zero, List.set_cons_succ]
        refine Left.run (i := 10) rfl (by kernel_rfl) (fun K hK => ?_)
        have H2 := H1.alloc (.cells #[.int .i64 n, .int .u64 t, .slice A3 recs.length c3, .bool false] 71)
        go_simp
        replace hS : (fun w' : World => w'.cell? ⟨p, 0, none⟩ = some (.slice A N c)) (w2.alloc (.cells #[.int .i64 n, .int .u64 t, .slice A3 recs.length c3, .bool false] 71)) := by exact H2.at2.cellOf 0 rfl
        refine hK.out _ _ (Or.inr hS) ?_
        clear hK K
        try simp only [Act.put, List.setIfInBounds_toArray, List.set_cons_zero, List.set_cons_succ]
        refine Left.run (i := 11) rfl (by kernel_rfl) (fun K hK => ?_)
        refine step_append_box (E := ERt) (v := .slice A N c) (by rfl) (.tmp 47) (.tmp 53) 28 (by rfl) 71 _ 4 48 Try.underlying28 info71 rfl (by decide) (by decide) rfl (by rfl) (by rfl) ((H1.alloc_ _).at2) (n, t, (A3, recs.length, c3), false) (by exact RdL.boxAt _ (by simp)) (by rw [hlm.out]; omega) ?_
        intro A4 c4 w3 H3
        rw [hlm.out] at H3
        rw [hlm.out]
        replace hS : (fun w' : World => w'.cell? ⟨p, 0, none⟩ = some (.slice A N c)) w3 := by exact H3.at2.cellOf 0 rfl
        refine hK.out _ _ (Or.inr hS) ?_
        clear hK K
        try simp only [Act.put, List.setIfInBounds_toArray, List.set_cons_zero, List.set_cons_succ]
        refine Left.pure (i := 12) (v := ?v8_12) rfl (by kernel_rfl) (fun _ _ _ h => h) (Or.inr hS) (Or.inl ⟨by rfl, fun w _ => ?hy8_12⟩) ?rest8_12
        case hy8_12 => (go_simp; try with_reducible rfl)
        try simp only [Act.put, List.setIfInBounds_toArray, List.set_cons_zero, List.set_cons_succ]
        refine Left.pure (i := 13) (v := ?v8_13) rfl (by kernel_rfl) (fun _ _ _ h => h) (Or.inr hS) (Or.inl ⟨by rfl, fun w _ => ?hy8_13⟩) ?rest8_13
        case hy8_13 => (go_simp; try with_reducible rfl)
        try simp only [Act.put, List.setIfInBounds_toArray, List.set_cons_zero, List.set_cons_succ]
        refine Left.run (i := 14) rfl (by kernel_rfl) (fun K hK => ?_)
        have f0 := H3.at2.frozenOf 0
        have d0 := H3.at2.cellOf 0 rfl
        go_simp
        refine hK.out _ _ (Or.inl (by kernel_rfl)) ?_
        clear hK K
        try simp only [Act.put, List.setIfInBounds_toArray, List.set_cons_zero, List.set_cons_succ]
        refine Left.done (by kernel_rfl) ?_ _

        have H4 := H3.at2.setCell (i := 0) (.slice A4 (N + 1) c4)
        clear f0 d0 k0
        go_wp2_with fail
        go_ret
        have H6 := RxS.snoc zs ((n, t, (A3, recs.length, c3), false), recs) H4.at4.at3
        refine ⟨?_, ?_⟩
        · unfold Rf.stE
          rw [he.out, hz'.out]
          rfl
        · unfold Rf.stage
          rw [he.out, hz'.out]
          refine RLog.mk_ (zs := zs ++ [((n, t, (A3, recs.length, c3), false), recs)]) (by show r.l ++ _ = _; rw [hl.out, List.map_append]; rfl) (v := .slice A4 (N + 1) c4) (vo := .slice A1 r.out.length c1) ?_
          rw [List.map_append]
          exact H6.at3.at3.at3
set_option maxRecDepth 100000 in
set_option maxHeartbeats 1000000 in
theorem rcommit14 (p : Nat) (n t : Int) (r : Rf) (w w0 : World) (R : List HP) (H : Hs w0 w (RLog p r :: R)) (hb : r.l.length ≤ 1000000) (hf : r.out.length + (r.l.flatMap (·.2.2.1)).length ≤ 1000000) :
    Calls Try.prog 14 #[.pointer (some ⟨p, 0, none⟩), .int .i64 n, .int .u64 t] w fun e w' => e = .returned (.int .i64 (r.cmE n t)) ∧ Hs w0 w' (RLog p (r.cm n t) :: R) := by
  have hlast := rlast20 p n r w w0 R H hb
  have HC := Lib.hid H
  obtain ⟨A, c, A1, c1, zs, hl, H⟩ := RLog.open_ H
  obtain ⟨N, hN⟩ : ∃ N, zs.length = N := ⟨_, rfl⟩
  rw [hN] at H
  have hbN : N ≤ 1000000 := by rw [hl, List.length_map] at hb; omega
  have k0 : w.cell? ⟨p, 0, none⟩ = some (.slice A N c) := H.cellOf 0 rfl
  have hcap := H.at1.ls_rd.caps.2
  replace hN := Lib.hid hN
  replace hl := Lib.hid hl
  replace H := Lib.hid H
  replace hf := Lib.hid hf
  clear hb
  obtain ⟨la, hla⟩ : ∃ la, r.last n = la := ⟨_, rfl⟩
  rw [hla] at hlast
  replace hla := Lib.hid hla
  by_cases hle : t ≤ la
  · have hd : decide (t ≤ la) = true := by simpa using hle
    have hle' := Lib.hid hle
    clear hle
    go_enter Try.func14, Try.ntmps14
    go_wp2_with fail
    refine hlast.mono ?_
    rintro e w1 ⟨rfl, rfl⟩
    go_wp2_with fail
    go_ret
    unfold Rf.cmE Rf.cm
    rw [hla.out, if_pos hle'.out, if_pos hle'.out]
    exact ⟨rfl, HC.out⟩
  · have hd : decide (t ≤ la) = false := by simpa using hle
    have hle' := Lib.hid hle
    clear hle
    go_enter Try.func14, Try.ntmps14
    go_wp2_with fail
    refine hlast.mono ?_
    rintro e w1 ⟨rfl, rfl⟩
    go_wp2_with fail
    go_loopg [7, 8] N (fun k bv iv wr => ∃ (j : Nat) (b : Bool), k + j = N ∧ iv = .int .i64 j ∧ bv = .bool b ∧ Hid ((r.l.take j).any (fun x => x.1 == n && x.2.1 == t) = b) ∧ wr = w)
    case atStart => exact ⟨0, false, rfl, rfl, rfl, by show _ = _; simp, rfl⟩
    case round =>
      obtain ⟨j, b, hk, rfl, rfl, ho, rfl⟩ := hrel
      have hjN : j ≤ N := by omega
      replace hk := Lib.hid hk
      rcases Nat.lt_or_ge j N with hj | hj
      · have hj0 : (0 : Int) ≤ (j : Int) := by omega
        have hj1 : (j : Int) < (N : Int) := by omega
        obtain ⟨z, hz⟩ : ∃ z, zs[j]? = some z := ⟨_, List.getElem?_eq_getElem (by have := hN.out; omega)⟩
        obtain ⟨g, off, rfl⟩ := H.out.at1.ls_rd.some_ (by have := hN.out; rw [List.length_map]; omega)
        obtain ⟨s0, s1, _, _⟩ := rt_cells H.out.at1.ls_rd hz
        have hstep : Hid (r.l.take (j + 1) = r.l.take j ++ [zm z]) := by show _ = _; rw [List.take_add_one, hl.out, List.getElem?_map, hz]; rfl
        replace hz := Lib.hid hz
        obtain ⟨⟨pz, nz, sl, dz⟩, rz⟩ := z
        simp only at s0 s1
        have hfin : Hid (∀ b', (b || (pz == n && nz == t)) = b' → (r.l.take (j + 1)).any (fun x => x.1 == n && x.2.1 == t) = b') := by
          intro b' hb
          rw [hstep.out, List.any_append, ho.out]
          simp only [zm, List.any_cons, List.any_nil, Bool.or_false]
          exact hb
        cases b with
        | true =>
          go_wp2_with fail
          go_roundg (N - (j + 1))
          case measure => have := hk.out; omega
          case rel => exact ⟨j + 1, true, by have := hk.out; omega, by go_num, rfl, hfin.out true rfl, rfl⟩
        | false =>
          by_cases hp : pz = n
          · subst hp
            go_wp2_with fail
            go_roundg (N - (j + 1))
            case measure => have := hk.out; omega
            case rel => exact ⟨j + 1, (nz == t), by have := hk.out; omega, by go_num, rfl, hfin.out _ (by simp), rfl⟩
          · have hpb : (pz == n) = false := by rw [beq_eq_false_iff_ne]; exact hp
            have hpb' := Lib.hid hpb
            clear hp
            go_wp2_with fail
            go_roundg (N - (j + 1))
            case measure => have := hk.out; omega
            case rel => exact ⟨j + 1, false, by have := hk.out; omega, by go_num, rfl, hfin.out _ (by rw [hpb'.out]; rfl), rfl⟩
      · have hj1 : decide ((j : Int) < (N : Int)) = false := by rw [decide_eq_false_iff_not]; omega
        have hj2 : decide (j < N) = false := by rw [decide_eq_false_iff_not]; omega
        have he : Hid (r.l.any (fun x => x.1 == n && x.2.1 == t) = b) := by
          have h := ho.out
          rwa [List.take_of_length_le (by rw [hl.out, List.length_map]; have := hN.out; omega)] at h
        clear hj
        cases b with
        | false =>
          go_wp2_with fail
          go_ret
          unfold Rf.cmE Rf.cm
          have hnl : ¬ t ≤ la := by have := hle'.out; omega
          simp only [hla.out, if_neg hnl, he.out, Bool.false_eq_true, if_false]
          exact ⟨rfl, HC.out⟩
        | true =>
          have hres : Hid (r.cmE n t = 0 ∧ r.cm n t = r.commit n t) := by
            unfold Rf.cmE Rf.cm
            have hnl : ¬ t ≤ la := by have := hle'.out; omega
            simp only [hla.out, if_neg hnl, he.out, if_true]
            exact ⟨trivial, trivial⟩
          clear hlast hk ho hjN
          obtain ⟨gz, hgz⟩ : ∃ gz : ZT → ZT, gz = fun z => if Rf.hits n t (zm z) then ((z.1.1, z.1.2.1, z.1.2.2.1, true), z.2) else z := ⟨_, rfl⟩
          replace hgz := Lib.hid hgz
          go_wp2_with fail
          go_loopg [9] N (fun k iv wq => ∃ (j : Nat) (A2 : Option Addr) (c2 : Nat) (al : List Rec), k + j = N ∧ iv = .int .i64 j ∧ Hid (al = r.out ++ ((r.l.take j).filter (Rf.hits n t)).flatMap (·.2.2.1)) ∧ Hid (Hs w0 wq (Blk p (.cells #[.slice A N c, .slice A2 al.length c2] 31 (0, 0)) :: Ls ERt 71 (.slice A N c) (((zs.take j).map gz ++ zs.drop j).map (·.1)) :: Ls ERec 39 (.slice A2 al.length c2) al :: RxS zs :: R)))
          case atStart => exact ⟨0, A1, c1, r.out, rfl, rfl, by show _ = _; simp, by show Hs _ _ _; simpa using H.out⟩
          case round =>
            clear H k0
            obtain ⟨i, A2, c2, al, hk, rfl, ho, H⟩ := hrel
            have hiN : i ≤ N := by omega
            replace hk := Lib.hid hk
            have hcap2 := H.out.at2.ls_rd.caps.2
            have k0 : wr.cell? ⟨p, 0, none⟩ = some (.slice A N c) := H.out.cellOf 0 rfl
            rcases Nat.lt_or_ge i N with hj | hj
            · have hj0 : (0 : Int) ≤ (i : Int) := by omega
              have hj1 : (i : Int) < (N : Int) := by omega
              obtain ⟨z, hz⟩ : ∃ z, zs[i]? = some z := ⟨_, List.getElem?_eq_getElem (by have := hN.out; omega)⟩
              have hzl := (List.getElem?_eq_some_iff.1 hz).1
              have hcl : ((zs.take i).map gz).length = i := by rw [List.length_map, List.length_take]; omega
              have hzc : ((zs.take i).map gz ++ zs.drop i)[i]? = some z := by rw [List.getElem?_append_right (by omega), hcl, Nat.sub_self, List.getElem?_drop, Nat.add_zero]; exact hz
              have hdrop : zs.drop i = z :: zs.drop (i + 1) := by rw [List.drop_eq_getElem_cons hzl]; congr 1; exact (List.getElem?_eq_some_iff.1 hz).2
              have hnext : (zs.take (i + 1)).map gz ++ zs.drop (i + 1) = ((zs.take i).map gz ++ zs.drop i).set i (gz z) := by
                rw [List.set_append_right _ _ (by omega), hcl, Nat.sub_self, hdrop, List.set_cons_zero, List.take_add_one, hz, List.map_append, List.append_assoc]
                rfl
              have hnz : ((zs.take (i + 1)).map gz ++ zs.drop (i + 1))[i]? = some (gz z) := by
                rw [hnext, List.getElem?_set_self (by rw [List.length_append, hcl, List.length_drop]; omega)]
              obtain ⟨g, off, rfl⟩ := H.out.at1.ls_rd.some_ (by rw [List.length_map, List.length_append, hcl, List.length_drop]; omega)
              obtain ⟨s0, s1, s2, s3⟩ := rt_cells H.out.at1.ls_rd hzc
              have hstep : Hid (r.l.take (i + 1) = r.l.take i ++ [zm z]) := by show _ = _; rw [List.take_add_one, hl.out, List.getElem?_map, hz]; rfl
              have hrz := Lib.hid (RxS.get zs i z H.out.at3 hz)
              obtain ⟨⟨pz, nz, ⟨A3, m3, c3⟩, dz⟩, rz⟩ := z
              simp only at s0 s1 s2 s3 hrz
              have hm3 := hrz.out.caps.1
              have hcx : Hid (((zs.take i).map gz ++ zs.drop i).map (·.1) = ((zs.take i).map gz ++ zs.drop i).map (·.1)) := rfl
              have hskip : Hid (Rf.hits n t (pz, nz, rz, dz) = false → (zs.take (i + 1)).map gz ++ zs.drop (i + 1) = (zs.take i).map gz ++ zs.drop i ∧ al = r.out ++ ((r.l.take (i + 1)).filter (Rf.hits n t)).flatMap (·.2.2.1)) := by
                intro hh
                refine ⟨?_, ?_⟩
                · rw [hnext]
                  have : gz ((pz, nz, (A3, m3, c3), dz), rz) = ((pz, nz, (A3, m3, c3), dz), rz) := by rw [hgz.out]; simp only [zm, hh]; rfl
                  rw [this]
                  exact List.ext_getElem? fun k => by
                    rw [List.getElem?_set]
                    split
                    · rename_i e; subst e
                      rw [if_pos (List.getElem?_eq_some_iff.1 hzc).1, hzc]
                    · rfl
                · rw [hstep.out, List.filter_append, ho.out]
                  simp [zm, hh]
              have hskip2 : Hid (Rf.hits n t (pz, nz, rz, dz) = false → ∃ (j : Nat) (A2' : Option Addr) (c2' : Nat) (al' : List Rec), N - (i + 1) + j = N ∧ Value.int .i64 ((i : Int) + 1) = .int .i64 j ∧ Hid (al' = r.out ++ ((r.l.take j).filter (Rf.hits n t)).flatMap (·.2.2.1)) ∧ Hid (Hs w0 wr (Blk p (.cells #[.slice (some ⟨g, off, none⟩) N c, .slice A2' al'.length c2'] 31 (0, 0)) :: Ls ERt 71 (.slice (some ⟨g, off, none⟩) N c) (((zs.take j).map gz ++ zs.drop j).map (·.1)) :: Ls ERec 39 (.slice A2' al'.length c2') al' :: RxS zs :: R))) := by
                intro hh
                obtain ⟨e1, e2⟩ := hskip.out hh
                refine ⟨i + 1, A2, c2, al, by omega, rfl, e2, ?_⟩
                rw [e1]
                exact H
              by_cases hp : pz = n
              · subst hp
                cases dz with
                | true =>
                  go_wp2_with fail
                  go_roundg (N - (i + 1))
                  case measure => have := hk.out; omega
                  case rel => exact hskip2.out (by simp [Rf.hits])
                | false =>
                  by_cases hnt : nz ≤ t
                  · have hb1 : decide (nz ≤ t) = true := by simpa using hnt
                    have hhit : Rf.hits pz t (pz, nz, rz, false) = true := by simp [Rf.hits, hb1]
                    have hgzz : gz ((pz, nz, (A3, m3, c3), false), rz) = ((pz, nz, (A3, m3, c3), true), rz) := by rw [hgz.out]; simp only [zm, hhit]; rfl
                    have hal : Hid (al ++ rz = r.out ++ ((r.l.take (i + 1)).filter (Rf.hits pz t)).flatMap (·.2.2.1)) := by
                      show _ = _
                      rw [hstep.out, List.filter_append, List.flatMap_append, ← List.append_assoc, ← ho.out]
                      simp [zm, hhit]
                    have hbn : Hid (al.length + rz.length ≤ 1000000) := by
                      show _ ≤ _
                      have h1 := hf.out
                      have h3 := congrArg (fun l => (l.flatMap (fun x : RT => x.2.2.1)).length) (List.take_append_drop (i + 1) r.l)
                      have h6 : ∀ l : List RT, ((l.filter (Rf.hits pz t)).flatMap (·.2.2.1)).length ≤ (l.flatMap (·.2.2.1)).length := by
                        intro l
                        induction l with
                        | nil => simp
                        | cons a l ih =>
                          rw [List.filter_cons]
                          split
                          · simp only [List.flatMap_cons, List.length_append]; omega
                          · simp only [List.flatMap_cons, List.length_append]; omega
                      have h5 := h6 (r.l.take (i + 1))
                      have h7 := congrArg List.length hal.out
                      simp only [List.flatMap_append, List.length_append] at h3 h7
                      omega
                    have hmx : (((zs.take i).map gz ++ zs.drop i).map (fun z : ZT => z.1))[i]? = some (pz, nz, (A3, m3, c3), false) := by rw [List.getElem?_map, hzc]; rfl
                    have H1 := H.out.at1.ls_put i (pz, nz, (A3, m3, c3), false) (pz, nz, (A3, m3, c3), true) hmx 3 (.bool true) (by decide) rfl
                    have hms : (((zs.take i).map gz ++ zs.drop i).map (fun z : ZT => z.1)).set i (pz, nz, (A3, m3, c3), true) = ((zs.take (i + 1)).map gz ++ zs.drop (i + 1)).map (·.1) := by
                      rw [hnext, hgzz, List.map_set]
                    rw [hms, show off + (i * ERt.sz + 3) = off + i * 4 + 3 from by show off + (i * 4 + 3) = _; omega] at H1
                    rw [hgzz] at hnz
                    have hcy : Hid (∀ w', RdL ERt w' (.slice (some ⟨g, off, none⟩) N c) (((zs.take (i + 1)).map gz ++ zs.drop (i + 1)).map (·.1)) → w'.cell? ⟨g, off + i * 4 + 2, none⟩ = some (.slice A3 m3 c3)) := fun w' h => (rt_cells h hnz).2.2.1
                    have f3 := H.out.at1.ls_frozen (off + i * 4 + 3)
                    replace hz := Lib.hid hz
                    replace H1 := Lib.hid H1
                    subst hm3
                    generalize hZ : ((zs.take (i + 1)).map gz ++ zs.drop (i + 1)).map (fun z : ZT => z.1) = Z at *
                    replace hZ := Lib.hid hZ
                    clear hnz hms hmx hgzz hhit hnext hdrop hzc hcl hcx hskip hskip2 hnt H hzl
                    go_wp2_with fail
                    clear s0 s1 s2 s3 f3 k0
                    generalize World.setCell wr _ _ = ws at H1 ⊢
                    have hrs := Lib.hid (RxS.get zs i _ H1.out.drew.at3 hz.out)
                    simp only at hrs
                    replace H1 := H1.out
                    refine wp_region_left (S := fun w' : World => w'.cell? ⟨p, 0, none⟩ = some (.slice (some ⟨g, off, none⟩) N c) ∧ w'.cell? ⟨p, 1, none⟩ = some (.slice A2 al.length c2) ∧ w'.cell? ⟨g, off + i * 4 + 2, none⟩ = some (.slice A3 rz.length c3)) 16 mixed ?_
                    have hS : (fun w' : World => w'.cell? ⟨p, 0, none⟩ = some (.slice (some ⟨g, off, none⟩) N c) ∧ w'.cell? ⟨p, 1, none⟩ = some (.slice A2 al.length c2) ∧ w'.cell? ⟨g, off + i * 4 + 2, none⟩ = some (.slice A3 rz.length c3)) ws.drew := by exact ⟨H1.drew.at1.cellOf 0 rfl, H1.drew.at1.cellOf 1 rfl, hcy.out _ H1.drew.ls_rd⟩
                    refine Left.pure (i := 0) (v := ?v15_0) rfl (by kernel_rfl) (fun _ _ _ h => h) (Or.inr hS) (Or.inl ⟨by rfl, fun w _ => ?hy15_0⟩) ?rest15_0
                    case hy15_0 => (go_simp; try with_reducible rfl)
                    try simp only [Act.put, List.setIfInBounds_toArray, List.set_cons_zero, List.set_cons_succ]
                    refine Left.pure (i := 1) (v := ?v15_1) rfl (by kernel_rfl) (fun _ _ _ h => h) (Or.inr hS) (Or.inl ⟨by rfl, fun w _ => ?hy15_1⟩) ?rest15_1
                    case hy15_1 => (go_simp; try with_reducible rfl)
                    try simp only [Act.put, List.setIfInBounds_toArray, List.set_cons_zero, List.set_cons_succ]
                    refine Left.pure (i := 2) (v := ?v15_2) rfl (by kernel_rfl) (fun _ _ _ h => h) (Or.inr hS) (Or.inl ⟨by rfl, fun w _ => ?hy15_2⟩) ?rest15_2
                    case hy15_2 => (go_simp; try with_reducible rfl)
                    try simp only [Act.put, List.setIfInBounds_toArray, List.set_cons_zero, List.set_cons_succ]
                    refine Left.pure (i := 3) (v := ?v15_3) rfl (by kernel_rfl) (fun _ _ _ h => h) (Or.inr hS) (Or.inl ⟨by rfl, fun w _ => ?hy15_3⟩) ?rest15_3
                    case hy15_3 => (go_simp; try with_reducible rfl)
                    try simp only [Act.put, List.setIfInBounds_toArray, List.set_cons_zero, List.set_cons_succ]
                    refine Left.take (i := 4) (v := ?v15_4) rfl (by kernel_rfl) (fun _ _ _ h => h) hS (Or.inl ⟨by rfl, fun w hSw => ?hy15_4⟩) ?rest15_4
                    case hy15_4 => ((try dsimp only at hSw); go_simp; try with_reducible rfl)
                    try simp only [Act.put, List.setIfInBounds_toArray, List.set_cons_zero, List.set_cons_succ]
                    refine Left.pure (i := 5) (v := ?v15_5) rfl (by kernel_rfl) (fun _ _ _ h => h) (Or.inr hS) (Or.inl ⟨by rfl, fun w _ => ?hy15_5⟩) ?rest15_5
                    case hy15_5 => (go_simp; try with_reducible rfl)
                    try simp only [Act.put, List.setIfInBounds_toArray, List.set_cons_zero, List.set_cons_succ]
                    refine Left.pure (i := 6) (v := ?v15_6) rfl (by kernel_rfl) (fun _ _ _ h => h) (Or.inr hS) (Or.inl ⟨by rfl, fun w _ => ?hy15_6⟩) ?rest15_6
                    case hy15_6 => (go_simp; try with_reducible rfl)
                    try simp only [Act.put, List.setIfInBounds_toArray, List.set_cons_zero, List.set_cons_succ]
                    refine Left.pure (i := 7) (v := ?v15_7) rfl (by kernel_rfl) (fun _ _ _ h => h) (Or.inr hS) (Or.inl ⟨by rfl, fun w _ => ?hy15_7⟩) ?rest15_7
                    case hy15_7 => (go_simp; try with_reducible rfl)
                    try simp only [Act.put, List.setIfInBounds_toArray, List.set_cons_zero, List.set_cons_succ]
                    refine Left.take (i := 8) (v := ?v15_8) rfl (by kernel_rfl) (fun _ _ _ h => h) hS (Or.inl ⟨by rfl, fun w hSw => ?hy15_8⟩) ?rest15_8
                    case hy15_8 => ((try dsimp only at hSw); go_simp; try with_reducible rfl)
                    try simp only [Act.put, List.setIfInBounds_toArray, List.set_cons_zero, List.set_cons_succ]
                    refine Left.pure (i := 9) (v := ?v15_9) rfl (by kernel_rfl) (fun _ _ _ h => h) (Or.inr hS) (Or.inl ⟨by rfl, fun w _ => ?hy15_9⟩) ?rest15_9
                    case hy15_9 => (go_simp; try with_reducible rfl)
                    try simp only [Act.put, List.setIfInBounds_toArray, List.set_cons_zero, List.set_cons_succ]
                    refine Left.pure (i := 10) (v := ?v15_10) rfl (by kernel_rfl) (fun _ _ _ h => h) (Or.inr hS) (Or.inl ⟨by rfl, fun w _ => ?hy15_10⟩) ?rest15_10
                    case hy15_10 => (go_simp; try with_reducible rfl)
                    try simp only [Act.put, List.setIfInBounds_toArray, List.set_cons_zero, List.set_cons_succ]
                    refine Left.pure (i := 11) (v := ?v15_11) rfl (by kernel_rfl) (fun _ _ _ h => h) (Or.inr hS) (Or.inl ⟨by rfl, fun w _ => ?hy15_11⟩) ?rest15_11
                    case hy15_11 => (go_simp; try with_reducible rfl)
                    try simp only [Act.put, List.setIfInBounds_toArray, List.set_cons_zero, List.set_cons_succ]
                    refine Left.take (i := 12) (v := ?v15_12) rfl (by kernel_rfl) (fun _ _ _ h => h) hS (Or.inl ⟨by rfl, fun w hSw => ?hy15_12⟩) ?rest15_12
                    case hy15_12 => ((try dsimp only at hSw); go_simp; try with_reducible rfl)
                    try simp only [Act.put, List.setIfInBounds_toArray, List.set_cons_zero, List.set_cons_succ]
                    refine Left.run (i := 13) rfl (by kernel_rfl) (fun K hK => ?_)
                    simp only [Act.put, List.getElem_toArray, List.getElem_cons_zero, List.getElem_cons_succ, List.setIfInBounds_toArray, List.set_cons_zero, List.set_cons_succ]
                    rw [if_pos (by rfl)]
                    refine wp_appendL (E := ERec) (v := .slice A2 al.length c2) (.tmp 104) (.tmp 112) 29 (by rfl) 39 _ 3 24 Try.underlying29 infoc29 rfl (by decide) (by decide) rfl (by rfl) (.slice A3 rz.length c3) (by rfl) H1.drew.at2 hrs.out (by have := hbn.out; omega) ?_
                    intro A5 c5 w3 H3
                    replace hS : (fun w' : World => w'.cell? ⟨p, 0, none⟩ = some (.slice (some ⟨g, off, none⟩) N c) ∧ w'.cell? ⟨p, 1, none⟩ = some (.slice A2 al.length c2) ∧ w'.cell? ⟨g, off + i * 4 + 2, none⟩ = some (.slice A3 rz.length c3)) w3 := by exact ⟨H3.at2.cellOf 0 rfl, H3.at2.cellOf 1 rfl, hcy.out _ H3.at1.ls_rd⟩
                    refine hK.out _ _ (Or.inr hS) ?_
                    clear hK K
                    try simp only [Act.put, List.setIfInBounds_toArray, List.set_cons_zero, List.set_cons_succ]
                    refine Left.pure (i := 14) (v := ?v15_14) rfl (by kernel_rfl) (fun _ _ _ h => h) (Or.inr hS) (Or.inl ⟨by rfl, fun w _ => ?hy15_14⟩) ?rest15_14
                    case hy15_14 => (go_simp; try with_reducible rfl)
                    try simp only [Act.put, List.setIfInBounds_toArray, List.set_cons_zero, List.set_cons_succ]
                    refine Left.pure (i := 15) (v := ?v15_15) rfl (by kernel_rfl) (fun _ _ _ h => h) (Or.inr hS) (Or.inl ⟨by rfl, fun w _ => ?hy15_15⟩) ?rest15_15
                    case hy15_15 => (go_simp; try with_reducible rfl)
                    try simp only [Act.put, List.setIfInBounds_toArray, List.set_cons_zero, List.set_cons_succ]
                    refine Left.run (i := 16) rfl (by kernel_rfl) (fun K hK => ?_)
                    have f1 := H3.at2.frozenOf 1
                    have d1 := H3.at2.cellOf 1 rfl
                    go_simp
                    refine hK.out _ _ (Or.inl (by kernel_rfl)) ?_
                    clear hK K
                    try simp only [Act.put, List.setIfInBounds_toArray, List.set_cons_zero, List.set_cons_succ]
                    refine Left.done (by kernel_rfl) ?_ _

                    have H4 := H3.at2.setCell (i := 1) (.slice A5 (al.length + rz.length) c5)
                    clear f1 d1
                    go_wp2_with fail
                    go_roundg (N - (i + 1))
                    case measure => have := hk.out; omega
                    case rel =>
                      refine ⟨i + 1, A5, c5, al ++ rz, by have := hk.out; omega, by go_num, hal, ?_⟩
                      show Hs _ _ _
                      rw [List.length_append, hZ.out]
                      exact H4.at2.at1
                  · have hb1 : decide (nz ≤ t) = false := by simpa using hnt
                    have hb2 := Lib.hid hb1
                    clear hnt
                    go_wp2_with fail
                    go_roundg (N - (i + 1))
                    case measure => have := hk.out; omega
                    case rel => exact hskip2.out (by have := hb2.out; simp [Rf.hits, this])
              · have hpb : (pz == n) = false := by rw [beq_eq_false_iff_ne]; exact hp
                have hpb' := Lib.hid hpb
                clear hp
                go_wp2_with fail
                go_roundg (N - (i + 1))
                case measure => have := hk.out; omega
                case rel => exact hskip2.out (by have := hpb'.out; simp [Rf.hits, this])
            · have hj1 : decide ((i : Int) < (N : Int)) = false := by rw [decide_eq_false_iff_not]; omega
              have hj2 : decide (i < N) = false := by rw [decide_eq_false_iff_not]; omega
              have hiN2 : i = N := by omega
              have e1 : zs.take i = zs := List.take_of_length_le (by have := hN.out; omega)
              have e2 : zs.drop i = [] := List.drop_eq_nil_of_le (by have := hN.out; omega)
              have e3 : r.l.take i = r.l := List.take_of_length_le (by rw [hl.out, List.length_map]; have := hN.out; omega)
              have fin : Hid (∀ w', Hs w0 w' (Blk p (.cells #[.slice A N c, .slice A2 al.length c2] 31 (0, 0)) :: Ls ERt 71 (.slice A N c) (((zs.take i).map gz ++ zs.drop i).map (·.1)) :: Ls ERec 39 (.slice A2 al.length c2) al :: RxS zs :: R) → Hs w0 w' (RLog p (r.cm n t) :: R)) := by
                intro w' h
                rw [hres.out.2]
                rw [e1, e2, List.append_nil] at h
                have ha : al = (r.commit n t).out := by rw [ho.out, e3]; rfl
                rw [ha] at h
                rw [← RxS.map gz (fun z => by rw [hgz.out]; simp only; split <;> exact ⟨rfl, rfl⟩) zs] at h
                refine RLog.mk_ (zs := zs.map gz) ?_ h
                show r.l.map _ = _
                rw [hl.out, List.map_map, List.map_map]
                refine List.map_congr_left fun z _ => ?_
                rw [hgz.out]
                simp only [Function.comp]
                split <;> rfl
              clear hj e1 e2 e3
              go_wp2_with fail
              go_ret
              exact ⟨by rw [hres.out.1]; rfl, fin.out _ H.out⟩
end Go.Proofs.Ytjlonfldcmcchaa

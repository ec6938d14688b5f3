import Derived.Test.YtoiokmfdmpifiaaRg2
import Derived.Test.YtoiokmfdmpifiaaPn
import Derived.Test.YtoiokmfdmpifiaaRi
import Derived.Test.YtoiokmfdmpifiaaSt
import Derived.Test.YtoiokmfdmpifiaaProg
import Derived.Test.YtoiokmfdmpifiaaLs
import Derived.Outline
import Derived.StillTailTactics
import Derived.Deep.DeepCutAuto
import Derived.Deep.CutBlock
import Derived.Deep.LoopGhost
import Derived.Deep.QuietTactic
import Derived.BigQuiet
import Derived.Deep.RegionHeld3
import Derived.Deep.RegionLaw
set_option linter.unusedVariables false
set_option linter.unusedSimpArgs false
namespace Go.Proofs.Ytoiokmfdmpifiaa
open Go.RowKit
set_option maxRecDepth 100000 in
set_option maxHeartbeats 1000000 in
theorem ref_deliver33 (p : Nat) (s : Ch Int) (w w0 : World) (R : List HP) (H : Hs w0 w (RefC p s :: R)) (hs : s.Ok) (he : ∀ m ∈ s.mov, m.1 = s.ep) :
    Calls Try.prog 33 #[.pointer (some ⟨p, 0, none⟩)] w fun r w' => r = .returned (.int .i64 s.dlv) ∧ Hs w0 w' (RefC p s.deliver :: R) := by
  have HC := Lib.hid H
  obtain ⟨A0, k0, A1, k1, A2, k2, A3, k3, H⟩ := RefC.open_ H
  have c1 : w.cell? ⟨p, 1, none⟩ = some (.slice A1 s.mov.length k1) := H.cellOf 1 rfl
  unfold Ch.dlv Ch.deliver
  cases hl : s.mov with
  | nil =>
    simp only
    rw [hl] at c1
    simp only [List.length_nil] at c1
    clear hl H
    go_enter Try.func33, Try.ntmps33
    go_wp2_with fail
    go_ret
    exact ⟨rfl, HC.out⟩
  | cons m r =>
    simp only
    have hme : m.1 = s.ep := he m (by rw [hl]; exact List.mem_cons_self)
    rw [hme]
    have hmb := hs.m
    rw [hl] at hmb H c1
    simp only [List.length_cons, List.map_cons] at hmb H c1
    have hok : Hid (Ch.Ok { s with mov := r }) := ⟨hs.c1, hs.c2, hs.b, by show r.length ≤ _; omega, hs.w⟩
    have hk1 := H.at2.ls_rd.caps.2.1
    have hk3 := H.at4.ls_rd.caps.2.1
    try simp only [List.length_map] at hk1 hk3
    obtain ⟨g1, o1, rfl⟩ := H.at2.ls_rd.some_ (by simp)
    obtain ⟨g3, o3, rfl⟩ := H.at4.ls_rd.some_ (by simp)
    have e1 : w.cell? ⟨g1, o1, none⟩ = some (.int .i64 m.2.2) := H.at2.ls_rd.cell (i := 0) rfl 0 rfl
    have e3 : w.cell? ⟨g3, o3, none⟩ = some (.int .u64 m.2.1) := H.at4.ls_rd.cell (i := 0) rfl 0 rfl
    have c3 : w.cell? ⟨p, 3, none⟩ = some (.slice (some ⟨g3, o3, none⟩) (r.length + 1) k3) := H.cellOf 3 rfl
    have hnz : ((r.length : Int) + 1 == 0) = false := by rw [beq_eq_false_iff_ne]; omega
    obtain ⟨B1, hB1, hcut1⟩ := cut_tail Try.prog 48 3 1 Try.underlying48 (by kernel_rfl) (some ⟨g1, o1, none⟩) r.length k1
    obtain ⟨B3, hB3, hcut3⟩ := cut_tail Try.prog 56 26 1 Try.underlying56 (by kernel_rfl) (some ⟨g3, o3, none⟩) r.length k3
    have hk1' : (1 : Int) ≤ (k1 : Int) := by omega
    have hk3' : (1 : Int) ≤ (k3 : Int) := by omega
    replace H := Lib.hid H
    clear hl he hme
    go_enter Try.func33, Try.ntmps33
    go_wp2_with fail
    go_quiet (fail)
    replace H := H.out.drewN (by assumption)
    clear c1 c3 e1 e3
    go_wp2_with fail
    generalize w.drewN _ = w1 at *
    refine wp_region_left (S := fun w' : World => w'.cell? ⟨p, 1, none⟩ = some (.slice (some ⟨g1, o1, none⟩) (r.length + 1) k1) ∧ w'.cell? ⟨p, 3, none⟩ = some (.slice (some ⟨g3, o3, none⟩) (r.length + 1) k3)) 14 mixed ?_
    have hS : (fun w' : World => w'.cell? ⟨p, 1, none⟩ = some (.slice (some ⟨g1, o1, none⟩) (r.length + 1) k1) ∧ w'.cell? ⟨p, 3, none⟩ = some (.slice (some ⟨g3, o3, none⟩) (r.length + 1) k3)) w1.drew := by exact ⟨H.drew.cellOf 1 rfl, H.drew.cellOf 3 rfl⟩
    have HD := H.drew
    clear H
    generalize w1.drew = wd at *
    refine Left.pure (i := 0) (v := ?v4_0) rfl (by kernel_rfl) (fun _ _ _ h => h) (Or.inr hS) (Or.inl ⟨by rfl, fun w _ => ?hy4_0⟩) ?rest4_0
    case hy4_0 => (go_simp; try with_reducible rfl)
    try simp only [Act.put, List.setIfInBounds_toArray, List.set_cons_zero, List.set_cons_succ]
    refine Left.pure (i := 1) (v := ?v4_1) rfl (by kernel_rfl) (fun _ _ _ h => h) (Or.inr hS) (Or.inl ⟨by rfl, fun w _ => ?hy4_1⟩) ?rest4_1
    case hy4_1 => (go_simp; try with_reducible rfl)
    try simp only [Act.put, List.setIfInBounds_toArray, List.set_cons_zero, List.set_cons_succ]
    refine Left.pure (i := 2) (v := ?v4_2) rfl (by kernel_rfl) (fun _ _ _ h => h) (Or.inr hS) (Or.inl ⟨by rfl, fun w _ => ?hy4_2⟩) ?rest4_2
    case hy4_2 => (go_simp; try with_reducible rfl)
    try simp only [Act.put, List.setIfInBounds_toArray, List.set_cons_zero, List.set_cons_succ]
    refine Left.pure (i := 3) (v := ?v4_3) rfl (by kernel_rfl) (fun _ _ _ h => h) (Or.inr hS) (Or.inl ⟨by rfl, fun w _ => ?hy4_3⟩) ?rest4_3
    case hy4_3 => (go_simp; try with_reducible rfl)
    try simp only [Act.put, List.setIfInBounds_toArray, List.set_cons_zero, List.set_cons_succ]
    refine Left.pure (i := 4) (v := ?v4_4) rfl (by kernel_rfl) (fun _ _ _ h => h) (Or.inr hS) (Or.inl ⟨by rfl, fun w _ => ?hy4_4⟩) ?rest4_4
    case hy4_4 => (go_simp; try with_reducible rfl)
    try simp only [Act.put, List.setIfInBounds_toArray, List.set_cons_zero, List.set_cons_succ]
    refine Left.take (i := 5) (v := ?v4_5) rfl (by kernel_rfl) (fun _ _ _ h => h) hS (Or.inl ⟨by rfl, fun w hSw => ?hy4_5⟩) ?rest4_5
    case hy4_5 => ((try dsimp only at hSw); go_simp; try with_reducible rfl)
    try simp only [Act.put, List.setIfInBounds_toArray, List.set_cons_zero, List.set_cons_succ]
    refine Left.pure (i := 6) (v := ?v4_6) rfl (by kernel_rfl) (fun _ _ _ h => h) (Or.inr hS) (Or.inl ⟨by rfl, fun w _ => ?hy4_6⟩) ?rest4_6
    case hy4_6 => (go_simp; try with_reducible rfl)
    try simp only [Act.put, List.setIfInBounds_toArray, List.set_cons_zero, List.set_cons_succ]
    refine Left.pure (i := 7) (v := ?v4_7) rfl (by kernel_rfl) (fun _ _ _ h => h) (Or.inr hS) (Or.inl ⟨by rfl, fun w _ => ?hy4_7⟩) ?rest4_7
    case hy4_7 => (go_simp; try with_reducible rfl)
    try simp only [Act.put, List.setIfInBounds_toArray, List.set_cons_zero, List.set_cons_succ]
    refine Left.pure (i := 8) (v := ?v4_8) rfl (by kernel_rfl) (fun _ _ _ h => h) (Or.inr hS) (Or.inl ⟨by rfl, fun w _ => ?hy4_8⟩) ?rest4_8
    case hy4_8 => (go_simp; try with_reducible rfl)
    try simp only [Act.put, List.setIfInBounds_toArray, List.set_cons_zero, List.set_cons_succ]
    refine Left.pure (i := 9) (v := ?v4_9) rfl (by kernel_rfl) (fun _ _ _ h => h) (Or.inr hS) (Or.inl ⟨by rfl, fun w _ => ?hy4_9⟩) ?rest4_9
    case hy4_9 => (go_simp; try with_reducible rfl)
    try simp only [Act.put, List.setIfInBounds_toArray, List.set_cons_zero, List.set_cons_succ]
    refine Left.take (i := 10) (v := ?v4_10) rfl (by kernel_rfl) (fun _ _ _ h => h) hS (Or.inl ⟨by rfl, fun w hSw => ?hy4_10⟩) ?rest4_10
    case hy4_10 => ((try dsimp only at hSw); go_simp; try with_reducible rfl)
    try simp only [Act.put, List.setIfInBounds_toArray, List.set_cons_zero, List.set_cons_succ]
    refine Left.pure (i := 11) (v := ?v4_11) rfl (by kernel_rfl) (fun _ _ _ h => h) (Or.inr hS) (Or.inl ⟨by rfl, fun w _ => ?hy4_11⟩) ?rest4_11
    case hy4_11 => (go_simp; try with_reducible rfl)
    try simp only [Act.put, List.setIfInBounds_toArray, List.set_cons_zero, List.set_cons_succ]
    refine Left.pure (i := 12) (v := ?v4_12) rfl (by kernel_rfl) (fun _ _ _ h => h) (Or.inr hS) (Or.inl ⟨by rfl, fun w _ => ?hy4_12⟩) ?rest4_12
    case hy4_12 => (go_simp; try with_reducible rfl)
    try simp only [Act.put, List.setIfInBounds_toArray, List.set_cons_zero, List.set_cons_succ]
    refine Left.pure (i := 13) (v := ?v4_13) rfl (by kernel_rfl) (fun _ _ _ h => h) (Or.inr hS) (Or.inl ⟨by rfl, fun w _ => ?hy4_13⟩) ?rest4_13
    case hy4_13 => (go_simp; try with_reducible rfl)
    try simp only [Act.put, List.setIfInBounds_toArray, List.set_cons_zero, List.set_cons_succ]
    refine Left.run (i := 14) rfl (by kernel_rfl) (fun K hK => ?_)
    have f1 := HD.frozenOf 1
    have d1 := HD.cellOf 1 rfl
    go_simp
    refine hK.out _ _ (Or.inl (by kernel_rfl)) ?_
    clear hK K
    try simp only [Act.put, List.setIfInBounds_toArray, List.set_cons_zero, List.set_cons_succ]
    refine Left.pure (i := 15) (v := ?v4_15) rfl (by kernel_rfl) (fun _ _ _ h => h) (Or.inl (by kernel_rfl)) (Or.inl ⟨by rfl, fun w _ => ?hy4_15⟩) ?rest4_15
    case hy4_15 => (go_simp; try with_reducible rfl)
    try simp only [Act.put, List.setIfInBounds_toArray, List.set_cons_zero, List.set_cons_succ]
    refine Left.pure (i := 16) (v := ?v4_16) rfl (by kernel_rfl) (fun _ _ _ h => h) (Or.inl (by kernel_rfl)) (Or.inl ⟨by rfl, fun w _ => ?hy4_16⟩) ?rest4_16
    case hy4_16 => (go_simp; try with_reducible rfl)
    try simp only [Act.put, List.setIfInBounds_toArray, List.set_cons_zero, List.set_cons_succ]
    refine Left.run (i := 17) rfl (by kernel_rfl) (fun K hK => ?_)
    have f3 := HD.frozenOf 3
    have d3 := HD.cellOf 3 rfl
    go_simp
    refine hK.out _ _ (Or.inl (by kernel_rfl)) ?_
    clear hK K
    try simp only [Act.put, List.setIfInBounds_toArray, List.set_cons_zero, List.set_cons_succ]
    refine Left.done (by kernel_rfl) ?_ _

    have c5 : wd.cell? ⟨p, 5, none⟩ = some (.int .u64 s.ep) := HD.cellOf 5 rfl
    have H2 := ((HD.setCellTo 1 (.slice B1 r.length (k1 - 1)) #[.slice A0 s.back.length k0, .slice B1 r.length (k1 - 1), .slice A2 s.wait.length k2, .slice (some ⟨g3, o3, none⟩) (r.length + 1) k3, .int .u64 s.out, .int .u64 s.ep, .int .i64 s.cr, .int .u64 s.inn, .int .i64 s.gr] rfl).setCellTo 3 (.slice B3 r.length (k3 - 1)) #[.slice A0 s.back.length k0, .slice B1 r.length (k1 - 1), .slice A2 s.wait.length k2, .slice B3 r.length (k3 - 1), .int .u64 s.out, .int .u64 s.ep, .int .i64 s.cr, .int .u64 s.inn, .int .i64 s.gr] rfl)
    have H3 := H2.at2.ls_tail (n := r.length + 1) (m := r.length) rfl rfl hB1
    have H4 := H3.at4.ls_tail (n := r.length + 1) (m := r.length) rfl rfl hB3
    have H5 := Lib.hid (RefC.mk_ (s := { s with mov := r }) H4.at4.at2.at4.at4)
    clear H2 H3 H4 HD f1 d1 f3 d3 hS hcut1 hcut3
    go_wp2_with fail
    refine (ref_arrives35 p { s with mov := r } s.ep m.2.1 m.2.2 _ w0 R H5.out hok.out).mono ?_
    rintro e w2 ⟨rfl, H6⟩
    go_wp2_with fail
    go_ret
    exact ⟨rfl, H6⟩
theorem ref_drain37 (p : Nat) (s : Ch Int) (w w0 : World) (R : List HP) (H : Hs w0 w (RefC p s :: R)) (hs : s.Ok) :
    Calls Try.prog 37 #[.pointer (some ⟨p, 0, none⟩)] w fun e w' => ∃ A n c, e = .returned (.slice A n c) ∧ n = s.rest.length ∧ Hs w0 w' (Ls (Enc.num .i64) 3 (.slice A n c) s.rest :: RefC p s.drain :: R) := by
  obtain ⟨A0, k0, A1, k1, A2, k2, A3, k3, H⟩ := RefC.open_ H
  have hbb := hs.b
  have hbm := hs.m
  have hbw := hs.w
  have l1 : Hid (([] : List Int).length + s.wait.length = s.wait.length) := by show _ = _; simp
  have l2 : Hid (([] ++ s.wait).length + (s.mov.map (fun q : Int × Int × Int => q.2.2)).length = s.wait.length + s.mov.length) := by show _ = _; simp
  have l3 : Hid (([] ++ s.wait ++ s.mov.map (fun q : Int × Int × Int => q.2.2)).length + s.back.length = s.wait.length + s.mov.length + s.back.length) := by show _ = _; simp
  replace H := H.ls_nil (Enc.num .i64) 3
  go_enter Try.func37, Try.ntmps37
  go_wp2_with fail
  go_region_held3 (fun w' => w'.cell? ⟨p, 0, none⟩ = some (.slice A0 s.back.length k0) ∧ w'.cell? ⟨p, 1, none⟩ = some (.slice A1 s.mov.length k1) ∧ w'.cell? ⟨p, 2, none⟩ = some (.slice A2 s.wait.length k2))
    (first | exact ⟨H.drew.at1.cellOf 0 rfl, H.drew.at1.cellOf 1 rfl, H.drew.at1.cellOf 2 rfl⟩ | exact ⟨H.at1.cellOf 0 rfl, H.at1.cellOf 1 rfl, H.at1.cellOf 2 rfl⟩)
    (first
      | (refine step_appendN (E := Enc.num .i64) (v := .slice none 0 0) s.wait.length (by rfl) (.const (.slice none 0 0)) (.tmp 7) 48 (by rfl) 3 _ 1 8 Try.underlying48 info54 rfl (by decide) (by decide) rfl (by rfl) (.slice A2 s.wait.length k2) (by rfl) H.drew H.drew.at4.ls_rd (by omega) l1.out ?_; intro A4 k4 w4 H)
      | (refine step_appendN (E := Enc.num .i64) (v := .slice A4 s.wait.length k4) (s.wait.length + s.mov.length) (by rfl) (.tmp 8) (.tmp 12) 48 (by rfl) 3 _ 1 8 Try.underlying48 info54 rfl (by decide) (by decide) rfl (by rfl) (.slice A1 s.mov.length k1) (by rfl) H H.at3.ls_rd (by omega) l2.out ?_; intro A5 k5 w5 H)
      | (refine step_appendN (E := Enc.num .i64) (v := .slice A5 (s.wait.length + s.mov.length) k5) (s.wait.length + s.mov.length + s.back.length) (by rfl) (.tmp 13) (.tmp 17) 48 (by rfl) 3 _ 1 8 Try.underlying48 info54 rfl (by decide) (by decide) rfl (by rfl) (.slice A0 s.back.length k0) (by rfl) H H.at2.ls_rd (by omega) l3.out ?_; intro A6 k6 w6 H))
  have hrest : [] ++ s.wait ++ s.mov.map (fun q : Int × Int × Int => q.2.2) ++ s.back = s.rest := by unfold Ch.rest; simp
  replace H := (H.ls_eq hrest).at1
  have c0 := H.cellOf 0 rfl
  have f0 := H.frozenOf 0
  have c1 := H.cellOf 1 rfl
  have f1 := H.frozenOf 1
  have c2 := H.cellOf 2 rfl
  have f2 := H.frozenOf 2
  have c3 := H.cellOf 3 rfl
  have f3 := H.frozenOf 3
  have c4 := H.cellOf 4 rfl
  have f4 := H.frozenOf 4
  have c7 := H.cellOf 7 rfl
  have f7 := H.frozenOf 7
  have H5 := H
  replace H5 := H5.setCellTo 7 (.int .u64 s.out) #[.slice A0 s.back.length k0, .slice A1 s.mov.length k1, .slice A2 s.wait.length k2, .slice A3 s.mov.length k3, .int .u64 s.out, .int .u64 s.ep, .int .i64 s.cr, .int .u64 s.out, .int .i64 s.gr] rfl
  replace H5 := H5.setCellTo 0 (.slice none 0 0) #[.slice none 0 0, .slice A1 s.mov.length k1, .slice A2 s.wait.length k2, .slice A3 s.mov.length k3, .int .u64 s.out, .int .u64 s.ep, .int .i64 s.cr, .int .u64 s.out, .int .i64 s.gr] rfl
  replace H5 := H5.setCellTo 1 (.slice none 0 0) #[.slice none 0 0, .slice none 0 0, .slice A2 s.wait.length k2, .slice A3 s.mov.length k3, .int .u64 s.out, .int .u64 s.ep, .int .i64 s.cr, .int .u64 s.out, .int .i64 s.gr] rfl
  replace H5 := H5.setCellTo 2 (.slice none 0 0) #[.slice none 0 0, .slice none 0 0, .slice none 0 0, .slice A3 s.mov.length k3, .int .u64 s.out, .int .u64 s.ep, .int .i64 s.cr, .int .u64 s.out, .int .i64 s.gr] rfl
  replace H5 := H5.setCellTo 3 (.slice none 0 0) #[.slice none 0 0, .slice none 0 0, .slice none 0 0, .slice none 0 0, .int .u64 s.out, .int .u64 s.ep, .int .i64 s.cr, .int .u64 s.out, .int .i64 s.gr] rfl
  replace H5 := Lib.hid H5
  clear H
  go_wp2_with fail
  go_ret
  have hlen : s.wait.length + s.mov.length + s.back.length = s.rest.length := by unfold Ch.rest; simp; omega
  refine ⟨_, _, _, rfl, hlen, ?_⟩
  have H6 := H5.out.at2.drop.at2.drop.at2.drop.at2.drop
  exact (RefC.mk_ (s := s.drain) ((((((H6.ls_nil (Enc.num .u64) 26).ls_nil (Enc.num .i64) 3).ls_nil (Enc.num .i64) 3).ls_nil (Enc.num .i64) 3).at4))).at1
end Go.Proofs.Ytoiokmfdmpifiaa

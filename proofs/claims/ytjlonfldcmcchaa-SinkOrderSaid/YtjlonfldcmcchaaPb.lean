import Derived.Test.YtjlonfldcmcchaaPa
import Derived.Test.YtjlonfldcmcchaaProg
import Derived.Test.YtjlonfldcmcchaaLs
import Derived.Outline
import Derived.StillTailTactics
import Derived.Deep.DeepCutAuto
import Derived.Deep.CutBlock
import Derived.Deep.LoopGhost
import Derived.Deep.QuietTactic
import Derived.BigQuiet
import Derived.Deep.RegionHeld3
import Derived.Deep.RegionLaw
set_option linter.unusedVariables false
set_option linter.unusedSimpArgs false
namespace Go.Proofs.Ytjlonfldcmcchaa
open Go.RowKit
theorem infoc29 : (Try.prog.info? 39).map (fun i => (i.zero, i.size, i.bytes)) = some (some (.agg #[.int .i64 0, .int .i64 0, .int .i64 0]), 3, 24) := by kernel_rfl
/-- slices.Clone. -/
theorem clone29 (v : Value) (xs : List (Rec)) (w w0 : World) (R : List HP) (H : Hs w0 w R) (hr : RdL (ERec) w v xs) (hb : xs.length * 24 ≤ 140737488355328) :
    Calls Try.prog 29 #[v] w fun e w' => ∃ A c, e = .returned (.slice A xs.length c) ∧ Hs w0 w' (Ls (ERec) 39 (.slice A xs.length c) xs :: R) := by
  obtain ⟨A, c, rfl⟩ := hr.form
  have hnil := fun w => Lib.run_eql_slice_nil (P := Try.prog) w 29 39 A xs.length c 0 0 Try.underlying29
  cases A with
  | none =>
    have hx : xs = [] := by
      obtain ⟨_, _, he, _, _, _, h4, _⟩ := hr
      injection he with ha _ _
      exact List.eq_nil_of_length_eq_zero (h4 ha.symm).1
    subst hx
    simp only [Option.isNone_none, List.length_nil] at hnil ⊢
    go_enter Try.func29, Try.ntmps29
    go_wp2_with fail
    go_ret
    exact ⟨none, 0, rfl, H.ls_nil _ _⟩
  | some a =>
    simp only [Option.isNone_some] at hnil
    go_enter Try.func29, Try.ntmps29
    go_wp2_with (at_builtin; refine wpList_appendL rfl (.tmp 5) (.tmp 6) 29 rfl 39 _ 3 24 Try.underlying29 infoc29 rfl (by decide) (by decide) rfl rfl _ rfl (H.ls_lit (ERec) 39 [] #[] rfl 0 rfl (by omega)) (hr.alloc _) (by simpa using hb) ?_)
    intro A c' w1 H1
    go_wp2_with fail
    go_ret
    exact ⟨_, _, rfl, by simpa using H1⟩
theorem new10 (w w0 : World) (R : List HP) (H : Hs w0 w R) : Calls Try.prog 10 #[] w fun e w' => ∃ p, e = .returned (.pointer (some ⟨p, 0, none⟩)) ∧ Hs w0 w' (Log p ⟨fun _ => ⟨[], 0⟩, []⟩ :: R) := by
  have hmm := @run_makeMap Try.prog
  go_enter Try.func10, Try.ntmps10
  go_wp2_with fail
  go_ret
  refine ⟨_, rfl, Log.mk_ (m := w.heap.size) (v := .slice none 0 0) (ps := []) ⟨by simp, fun _ _ => rfl⟩ ?_⟩
  have H1 := H.mp_made .i64
  have hps : Hs w0 (w.alloc (.map #[] 0)) (PS [] (fun _ => ⟨[], 0⟩) :: Mp .i64 w.heap.size [] :: R) := TxS.nil H1
  have H2 := (hps.ls_nil ERec 39).at2.alloc (.cells #[.map (some w.heap.size), .slice none 0 0] 61)
  rw [show (w.alloc (.map #[] 0)).heap.size = w.heap.size + 1 from Array.size_push ..] at H2
  exact H2
theorem all18 (p : Nat) (s : Lg) (w w0 : World) (R : List HP) (H : Hs w0 w (Log p s :: R)) (hb : s.all.length ≤ 1000000) :
    Calls Try.prog 18 #[.pointer (some ⟨p, 0, none⟩)] w fun e w' => ∃ A c, e = .returned (.slice A s.all.length c) ∧ Hs w0 w' (Ls ERec 39 (.slice A s.all.length c) s.all :: Log p s :: R) := by
  have HC := Lib.hid H
  obtain ⟨m, A, c, ps, hp, H⟩ := Log.open_ H
  have c1 : w.cell? ⟨p, 1, none⟩ = some (.slice A s.all.length c) := H.cellOf 1 rfl
  have hr := Lib.hid H.at2.ls_rd
  clear H
  go_enter Try.func18, Try.ntmps18
  go_wp2_with fail
  refine (clone29 _ s.all w w0 _ HC.out hr.out (by omega)).mono ?_
  rintro e w1 ⟨A1, k1, rfl, H1⟩
  go_wp2_with fail
  go_ret
  exact ⟨_, _, rfl, H1⟩
/-! ### ContainsFunc, with Commit's closure -/
theorem is31 (bt : Nat) (t n : Int) (A : Option Addr) (m c : Nat) (w w0 : World) (R : List HP) (H : Hs w0 w (Blk bt (.cells #[.int .u64 t] 32 (0, 0)) :: R)) :
    Calls Try.prog 31 #[.agg #[.int .u64 n, .slice A m c], .pointer (some ⟨bt, 0, none⟩)] w fun e w' => e = .returned (.bool (n == t)) ∧ Hs w0 w' (Blk bt (.cells #[.int .u64 t] 32 (0, 0)) :: R) := by
  have c0 : w.cell? ⟨bt, 0, none⟩ = some (.int .u64 t) := H.cellOf 0 rfl
  have hlt := H.lt
  go_enter Try.func31, Try.ntmps31
  go_wp2_with fail
  first | go_ret2 | skip
  all_goals first | exact ⟨rfl, H.alloc_ _⟩ | refine bodyPost_ret (v := .bool (n == t)) (by first | (simp [results, Try.results31, go_sem]; done) | (simp [results, Try.results31, go_sem]; rfl)) rfl ⟨rfl, H.alloc_ _⟩
set_option maxRecDepth 100000 in
theorem index32 (A : Option Addr) (n c bt : Nat) (t : Int) (vs : List (Int × Slc)) (w w0 : World) (R : List HP) (H : Hs w0 w (Ls ETx 68 (.slice A n c) vs :: Blk bt (.cells #[.int .u64 t] 32 (0, 0)) :: R)) :
    Calls Try.prog 32 #[.slice A n c, .func (.func 31) #[] #[.pointer (some ⟨bt, 0, none⟩)]] w fun e w' => ∃ r : Int, e = .returned (.int .i64 r) ∧ decide (0 ≤ r) = vs.any (fun x => x.1 == t) ∧ Hs w0 w' (Ls ETx 68 (.slice A n c) vs :: Blk bt (.cells #[.int .u64 t] 32 (0, 0)) :: R) := by
  have hcap := H.ls_rd.caps.2
  have hn := Lib.hid H.ls_rd.caps.1
  replace H := Lib.hid H
  go_enter Try.func32, Try.ntmps32
  go_wp2_with fail
  go_loopg [8] n (fun k i wr => ∃ (j : Nat), k + j = n ∧ i = .int .i64 j ∧ Hid ((vs.take j).any (fun x => x.1 == t) = false) ∧ Hid (Hs w0 wr (Ls ETx 68 (.slice A n c) vs :: Blk bt (.cells #[.int .u64 t] 32 (0, 0)) :: R)))
  case atStart => exact ⟨0, rfl, rfl, by show _ = _; simp, H⟩
  case round =>
    clear H
    obtain ⟨j, hk, rfl, he, H⟩ := hrel
    have hjn : j ≤ n := by omega
    replace hk := Lib.hid hk
    rcases Nat.lt_or_ge j n with hj | hj
    · have hj0 : (0 : Int) ≤ (j : Int) := by omega
      have hj1 : (j : Int) < (n : Int) := by omega
      obtain ⟨x, hx⟩ : ∃ x, vs[j]? = some x := ⟨_, List.getElem?_eq_getElem (by have := hn.out; omega)⟩
      obtain ⟨g, off, rfl⟩ := H.out.ls_rd.some_ (by have := hn.out; omega)
      have s0 : wr.cell? ⟨g, off + j * 2, none⟩ = some (.int .u64 x.1) := H.out.ls_rd.cell hx 0 rfl
      have s1 : wr.cell? ⟨g, off + j * 2 + 1, none⟩ = some (.slice x.2.1 x.2.2.1 x.2.2.2) := by have := H.out.ls_rd.cell hx 1 rfl; rwa [show off + (j * ETx.sz + 1) = off + j * 2 + 1 from by show off + (j * 2 + 1) = _; omega] at this
      replace hx := Lib.hid hx
      cases hb : (x.1 == t) with
      | true =>
        have hfin : Hid (vs.any (fun x => x.1 == t) = true) := by
          show _ = _
          rw [List.any_eq_true]
          exact ⟨x, List.mem_of_getElem? hx.out, hb⟩
        replace hb := Lib.hid hb
        go_wp2_with fail
        go_at_call 31
        refine (is31 bt t x.1 x.2.1 x.2.2.1 x.2.2.2 _ w0 _ H.out.at1).mono ?_
        rw [hb.out]
        rintro e w2 ⟨rfl, H2⟩
        go_wp2_with fail
        go_ret
        exact ⟨_, rfl, by rw [hfin.out]; simp, H2.at1⟩
      | false =>
        replace hb := Lib.hid hb
        go_wp2_with fail
        go_at_call 31
        refine (is31 bt t x.1 x.2.1 x.2.2.1 x.2.2.2 _ w0 _ H.out.at1).mono ?_
        rw [hb.out]
        rintro e w2 ⟨rfl, H2⟩
        go_wp2_with fail
        go_roundg (n - (j + 1))
        case measure => have := hk.out; omega
        case rel =>
          refine ⟨j + 1, by have := hk.out; omega, by go_num, ?_, H2.at1⟩
          show _ = _
          rw [List.take_add_one, hx.out, List.any_append, he.out]
          simpa using hb.out
    · have hj1 : (n : Int) ≤ (j : Int) := by omega
      have hfin : Hid (vs.any (fun x => x.1 == t) = false) := by
        have h := he.out
        rwa [List.take_of_length_le (by have := hn.out; omega)] at h
      go_wp2_with fail
      go_ret
      exact ⟨-1, rfl, by rw [hfin.out]; rfl, H.out⟩
theorem contains30 (A : Option Addr) (n c bt : Nat) (t : Int) (vs : List (Int × Slc)) (w w0 : World) (R : List HP) (H : Hs w0 w (Ls ETx 68 (.slice A n c) vs :: Blk bt (.cells #[.int .u64 t] 32 (0, 0)) :: R)) :
    Calls Try.prog 30 #[.slice A n c, .func (.func 31) #[] #[.pointer (some ⟨bt, 0, none⟩)]] w fun e w' => e = .returned (.bool (vs.any (fun x => x.1 == t))) ∧ Hs w0 w' (Ls ETx 68 (.slice A n c) vs :: Blk bt (.cells #[.int .u64 t] 32 (0, 0)) :: R) := by
  go_enter Try.func30, Try.ntmps30
  go_wp2_with fail
  refine (index32 A n c bt t vs w w0 R H).mono ?_
  rintro e w1 ⟨r, rfl, hr, H1⟩
  go_wp2_with fail
  go_ret
  exact ⟨by rw [← hr]; rfl, H1⟩
end Go.Proofs.Ytjlonfldcmcchaa

import Derived.Test.YtlhgmfdmkckmhaaPc
import Derived.Test.YtlhgmfdmkckmhaaSv
import Derived.Test.YtlhgmfdmkckmhaaPn
import Derived.Test.YtlhgmfdmkckmhaaProg
import Derived.Test.YtlhgmfdmkckmhaaLs
import Derived.Outline
import Derived.StillTailTactics
import Derived.Deep.DeepCutAuto
import Derived.Deep.CutBlock
import Derived.Deep.LoopGhost
import Derived.Deep.QuietTactic
import Derived.BigQuiet
import Derived.Deep.RegionHeld3
import Derived.Deep.RegionLaw
set_option linter.unusedVariables false
set_option linter.unusedSimpArgs false
namespace Go.Proofs.Ytlhgmfdmkckmhaa
open Go.RowKit
def Gt.capture (s : Gt) (ch : Nat) (f : Fr) : Gt := if (s.under != 0 && s.over && !(s.came.getD ch false)) = true then ⟨s.marks, s.came, s.blk, s.under, s.last, s.over, s.cap ++ [((ch : Int), f)]⟩ else s
set_option maxRecDepth 100000 in
set_option maxHeartbeats 800000 in
theorem capture28 (p ch : Nat) (f : Fr) (s : Gt) (w w0 : World) (R : List HP) (H : Hs w0 w (GateP p s :: R)) (hch : ch < s.came.length) (hb : s.cap.length ≤ 1000000) :
    Calls Try.prog 28 #[.pointer (some ⟨p, 0, none⟩), .int .i64 ch, frv f] w fun e w' => e = .returned (.tuple #[]) ∧ Hs w0 w' (GateP p (s.capture ch f) :: R) := by
  have HC := Lib.hid (H.alloc_ (.cells #[.int .i64 f.1, .int .i64 f.2.1.1, .int .i64 f.2.1.2.1, .int .i64 f.2.1.2.2, .int .i64 f.2.2.1, .int .u64 f.2.2.2.1, .bool f.2.2.2.2] 31))
  obtain ⟨Am, cm, Ac, cc, Ab, cb, Ak, ck, H⟩ := GateP.open_ H
  have H1 := H.alloc (.cells #[.int .i64 f.1, .int .i64 f.2.1.1, .int .i64 f.2.1.2.1, .int .i64 f.2.1.2.2, .int .i64 f.2.2.1, .int .u64 f.2.2.2.1, .bool f.2.2.2.2] 31)
  have k1 : w.cell? ⟨p, 1, none⟩ = some (.slice Ac s.came.length cc) := H.cellOf 1 rfl
  have k3 : w.cell? ⟨p, 3, none⟩ = some (.int .u64 s.under) := H.cellOf 3 rfl
  have k5 : w.cell? ⟨p, 5, none⟩ = some (.bool s.over) := H.cellOf 5 rfl
  have hp := H.lt
  obtain ⟨x, hx⟩ : ∃ x, s.came[ch]? = some x := ⟨_, List.getElem?_eq_getElem hch⟩
  have hxd : Hid (s.came.getD ch false = x) := by show _ = _; simp [List.getD, hx]
  obtain ⟨g, off, rfl⟩ := H.at2.ls_rd.some_ (by omega)
  have cx : w.cell? ⟨g, off + ch, none⟩ = some (.bool x) := by have := H.at2.ls_rd.cell hx 0 rfl; simpa [Enc.flag] using this
  have hg := lt_of_cell cx
  have hc0 : (0 : Int) ≤ (ch : Int) := by omega
  have hc1 : (ch : Int) < (s.came.length : Int) := by omega
  have no : Hid ((s.under != 0 && s.over && !x) = false → s.capture ch f = s) := by
    intro h
    unfold Gt.capture
    rw [hxd.out, h]
    rfl
  replace hx := Lib.hid hx
  replace H1 := Lib.hid H1
  clear H
  unfold frv
  by_cases hu : s.under = 0
  · have hub : (s.under != 0) = false := by rw [bne_eq_false_iff_eq]; exact hu
    have hub' := Lib.hid hub
    clear hu
    go_enter Try.func28, Try.ntmps28
    go_wp2_with fail
    go_end0
    rw [no.out (by rw [hub'.out]; rfl)]
    exact ⟨rfl, HC.out⟩
  · have hub : (s.under != 0) = true := by rw [bne_iff_ne]; exact hu
    have hub' := Lib.hid hub
    clear hu
    cases hov : s.over with
    | false =>
      rw [hov] at k5
      go_enter Try.func28, Try.ntmps28
      go_wp2_with fail
      go_end0
      rw [no.out (by rw [hov]; simp)]
      exact ⟨rfl, HC.out⟩
    | true =>
      rw [hov] at k5
      replace hov := Lib.hid hov
      cases x with
      | true =>
        go_enter Try.func28, Try.ntmps28
        go_wp2_with fail
        go_end0
        rw [no.out (by simp)]
        exact ⟨rfl, HC.out⟩
      | false =>
        have yes : Hid (s.capture ch f = ⟨s.marks, s.came, s.blk, s.under, s.last, s.over, s.cap ++ [((ch : Int), f)]⟩) := by
          show _ = _
          unfold Gt.capture
          rw [hxd.out, hov.out, hub'.out]
          rfl
        clear no HC
        go_enter Try.func28, Try.ntmps28
        go_wp2_with fail
        clear cx k1 k3 k5 hp hg
        generalize World.alloc w _ = w1 at *
        generalize w.heap.size = bx at *
        replace H1 := H1.out
        have SS : Hid (∀ (w' : World) (R' : List HP), Hs w0 w' (Blk bx (.cells #[.int .i64 f.1, .int .i64 f.2.1.1, .int .i64 f.2.1.2.1, .int .i64 f.2.1.2.2, .int .i64 f.2.2.1, .int .u64 f.2.2.2.1, .bool f.2.2.2.2] 31 (0, 0)) :: Blk p (.cells #[.slice Am s.marks.length cm, .slice (some ⟨g, off, none⟩) s.came.length cc, .slice Ab s.blk.length cb, .int .u64 s.under, .int .u64 s.last, .bool s.over, .slice Ak s.cap.length ck] 68 (0, 0)) :: R') →
            w'.cell? ⟨p, 6, none⟩ = some (.slice Ak s.cap.length ck) ∧ w'.cell? ⟨bx, 0, none⟩ = some (.int .i64 f.1) ∧ w'.cell? ⟨bx, 1, none⟩ = some (.int .i64 f.2.1.1) ∧ w'.cell? ⟨bx, 2, none⟩ = some (.int .i64 f.2.1.2.1) ∧ w'.cell? ⟨bx, 3, none⟩ = some (.int .i64 f.2.1.2.2) ∧ w'.cell? ⟨bx, 4, none⟩ = some (.int .i64 f.2.2.1) ∧ w'.cell? ⟨bx, 5, none⟩ = some (.int .u64 f.2.2.2.1) ∧ w'.cell? ⟨bx, 6, none⟩ = some (.bool f.2.2.2.2)) :=
          fun w' R' h => ⟨h.at1.cellOf 6 rfl, h.cellOf 0 rfl, h.cellOf 1 rfl, h.cellOf 2 rfl, h.cellOf 3 rfl, h.cellOf 4 rfl, h.cellOf 5 rfl, h.cellOf 6 rfl⟩
        refine wp_region_left (S := fun w' : World => w'.cell? ⟨p, 6, none⟩ = some (.slice Ak s.cap.length ck) ∧ w'.cell? ⟨bx, 0, none⟩ = some (.int .i64 f.1) ∧ w'.cell? ⟨bx, 1, none⟩ = some (.int .i64 f.2.1.1) ∧ w'.cell? ⟨bx, 2, none⟩ = some (.int .i64 f.2.1.2.1) ∧ w'.cell? ⟨bx, 3, none⟩ = some (.int .i64 f.2.1.2.2) ∧ w'.cell? ⟨bx, 4, none⟩ = some (.int .i64 f.2.2.1) ∧ w'.cell? ⟨bx, 5, none⟩ = some (.int .u64 f.2.2.2.1) ∧ w'.cell? ⟨bx, 6, none⟩ = some (.bool f.2.2.2.2)) 12 mixed ?_
        have hS : (fun w' : World => w'.cell? ⟨p, 6, none⟩ = some (.slice Ak s.cap.length ck) ∧ w'.cell? ⟨bx, 0, none⟩ = some (.int .i64 f.1) ∧ w'.cell? ⟨bx, 1, none⟩ = some (.int .i64 f.2.1.1) ∧ w'.cell? ⟨bx, 2, none⟩ = some (.int .i64 f.2.1.2.1) ∧ w'.cell? ⟨bx, 3, none⟩ = some (.int .i64 f.2.1.2.2) ∧ w'.cell? ⟨bx, 4, none⟩ = some (.int .i64 f.2.2.1) ∧ w'.cell? ⟨bx, 5, none⟩ = some (.int .u64 f.2.2.2.1) ∧ w'.cell? ⟨bx, 6, none⟩ = some (.bool f.2.2.2.2)) w1.drew := by exact SS.out _ _ H1.drew
        refine Left.pure (i := 0) (v := ?v2_0) rfl (by kernel_rfl) (fun _ _ _ h => h) (Or.inr hS) (Or.inl ⟨by kernel_rfl, fun w _ => ?hy2_0⟩) ?rest2_0
        case hy2_0 => (go_simp; try with_reducible rfl)
        try simp only [Act.put, List.setIfInBounds_toArray, List.set_cons_zero, List.set_cons_succ]
        refine Left.pure (i := 1) (v := ?v2_1) rfl (by kernel_rfl) (fun _ _ _ h => h) (Or.inr hS) (Or.inl ⟨by kernel_rfl, fun w _ => ?hy2_1⟩) ?rest2_1
        case hy2_1 => (go_simp; try with_reducible rfl)
        try simp only [Act.put, List.setIfInBounds_toArray, List.set_cons_zero, List.set_cons_succ]
        refine Left.pure (i := 2) (v := ?v2_2) rfl (by kernel_rfl) (fun _ _ _ h => h) (Or.inr hS) (Or.inl ⟨by kernel_rfl, fun w _ => ?hy2_2⟩) ?rest2_2
        case hy2_2 => (go_simp; try with_reducible rfl)
        try simp only [Act.put, List.setIfInBounds_toArray, List.set_cons_zero, List.set_cons_succ]
        refine Left.pure (i := 3) (v := ?v2_3) rfl (by kernel_rfl) (fun _ _ _ h => h) (Or.inr hS) (Or.inl ⟨by kernel_rfl, fun w _ => ?hy2_3⟩) ?rest2_3
        case hy2_3 => (go_simp; try with_reducible rfl)
        try simp only [Act.put, List.setIfInBounds_toArray, List.set_cons_zero, List.set_cons_succ]
        refine Left.take (i := 4) (v := ?v2_4) rfl (by kernel_rfl) (fun _ _ _ h => h) hS (Or.inl ⟨by kernel_rfl, fun w hSw => ?hy2_4⟩) ?rest2_4
        case hy2_4 => ((try dsimp only at hSw); go_simp; try with_reducible rfl)
        try simp only [Act.put, List.setIfInBounds_toArray, List.set_cons_zero, List.set_cons_succ]
        refine Left.pure (i := 5) (v := ?v2_5) rfl (by kernel_rfl) (fun _ _ _ h => h) (Or.inr hS) (Or.inl ⟨by kernel_rfl, fun w _ => ?hy2_5⟩) ?rest2_5
        case hy2_5 => (go_simp; try with_reducible rfl)
        try simp only [Act.put, List.setIfInBounds_toArray, List.set_cons_zero, List.set_cons_succ]
        refine Left.take (i := 6) (v := ?v2_6) rfl (by kernel_rfl) (fun _ _ _ h => h) hS (Or.inl ⟨by kernel_rfl, fun w hSw => ?hy2_6⟩) ?rest2_6
        case hy2_6 => ((try dsimp only at hSw); go_simp; try with_reducible rfl)
        try simp only [Act.put, List.setIfInBounds_toArray, List.set_cons_zero, List.set_cons_succ]
        refine Left.pure (i := 7) (v := ?v2_7) rfl (by kernel_rfl) (fun _ _ _ h => h) (Or.inr hS) (Or.inl ⟨by kernel_rfl, fun w _ => ?hy2_7⟩) ?rest2_7
        case hy2_7 => (go_simp; try with_reducible rfl)
        try simp only [Act.put, List.setIfInBounds_toArray, List.set_cons_zero, List.set_cons_succ]
        refine Left.run (i := 8) rfl (by kernel_rfl) (fun K hK => ?_)
        have H2 := H1.drew.alloc (.cells #[.int .i64 ch, .int .i64 f.1, .int .i64 f.2.1.1, .int .i64 f.2.1.2.1, .int .i64 f.2.1.2.2, .int .i64 f.2.2.1, .int .u64 f.2.2.2.1, .bool f.2.2.2.2] 46)
        go_simp
        replace hS : (fun w' : World => w'.cell? ⟨p, 6, none⟩ = some (.slice Ak s.cap.length ck) ∧ w'.cell? ⟨bx, 0, none⟩ = some (.int .i64 f.1) ∧ w'.cell? ⟨bx, 1, none⟩ = some (.int .i64 f.2.1.1) ∧ w'.cell? ⟨bx, 2, none⟩ = some (.int .i64 f.2.1.2.1) ∧ w'.cell? ⟨bx, 3, none⟩ = some (.int .i64 f.2.1.2.2) ∧ w'.cell? ⟨bx, 4, none⟩ = some (.int .i64 f.2.2.1) ∧ w'.cell? ⟨bx, 5, none⟩ = some (.int .u64 f.2.2.2.1) ∧ w'.cell? ⟨bx, 6, none⟩ = some (.bool f.2.2.2.2)) (w1.drew.alloc (.cells #[.int .i64 ch, .int .i64 f.1, .int .i64 f.2.1.1, .int .i64 f.2.1.2.1, .int .i64 f.2.1.2.2, .int .i64 f.2.2.1, .int .u64 f.2.2.2.1, .bool f.2.2.2.2] 46)) := by exact SS.out _ _ (H1.drew.alloc_ _)
        refine hK.out _ _ (Or.inr hS) ?_
        clear hK K
        try simp only [Act.put, List.setIfInBounds_toArray, List.set_cons_zero, List.set_cons_succ]
        refine Left.run (i := 9) rfl (by kernel_rfl) (fun K hK => ?_)
        refine step_append_box (E := EOut) (v := .slice Ak s.cap.length ck) (by rfl) (.tmp 31) (.tmp 35) 43 (by rfl) 46 _ 8 64 Try.underlying43 infoO rfl (by decide) (by decide) rfl (by rfl) (by rfl) ((H1.drew.alloc_ _).at5) ((ch : Int), f) (by exact RdL.boxAt _ (by simp)) (by omega) ?_
        intro A5 c5 w5 H3
        replace hS : (fun w' : World => w'.cell? ⟨p, 6, none⟩ = some (.slice Ak s.cap.length ck) ∧ w'.cell? ⟨bx, 0, none⟩ = some (.int .i64 f.1) ∧ w'.cell? ⟨bx, 1, none⟩ = some (.int .i64 f.2.1.1) ∧ w'.cell? ⟨bx, 2, none⟩ = some (.int .i64 f.2.1.2.1) ∧ w'.cell? ⟨bx, 3, none⟩ = some (.int .i64 f.2.1.2.2) ∧ w'.cell? ⟨bx, 4, none⟩ = some (.int .i64 f.2.2.1) ∧ w'.cell? ⟨bx, 5, none⟩ = some (.int .u64 f.2.2.2.1) ∧ w'.cell? ⟨bx, 6, none⟩ = some (.bool f.2.2.2.2)) w5 := by exact SS.out _ _ H3.at1.at2.at1
        refine hK.out _ _ (Or.inr hS) ?_
        clear hK K
        try simp only [Act.put, List.setIfInBounds_toArray, List.set_cons_zero, List.set_cons_succ]
        refine Left.pure (i := 10) (v := ?v2_10) rfl (by kernel_rfl) (fun _ _ _ h => h) (Or.inr hS) (Or.inl ⟨by kernel_rfl, fun w _ => ?hy2_10⟩) ?rest2_10
        case hy2_10 => (go_simp; try with_reducible rfl)
        try simp only [Act.put, List.setIfInBounds_toArray, List.set_cons_zero, List.set_cons_succ]
        refine Left.pure (i := 11) (v := ?v2_11) rfl (by kernel_rfl) (fun _ _ _ h => h) (Or.inr hS) (Or.inl ⟨by kernel_rfl, fun w _ => ?hy2_11⟩) ?rest2_11
        case hy2_11 => (go_simp; try with_reducible rfl)
        try simp only [Act.put, List.setIfInBounds_toArray, List.set_cons_zero, List.set_cons_succ]
        refine Left.run (i := 12) rfl (by kernel_rfl) (fun K hK => ?_)
        have f6 := H3.at2.frozenOf 6
        have d6 := H3.at2.cellOf 6 rfl
        go_simp
        refine hK.out _ _ (Or.inl (by kernel_rfl)) ?_
        clear hK K
        try simp only [Act.put, List.setIfInBounds_toArray, List.set_cons_zero, List.set_cons_succ]
        refine Left.done (by kernel_rfl) ?_ _

        have H4 := H3.at2.setCell (i := 6) (.slice A5 (s.cap.length + 1) c5)
        clear f6 d6
        go_wp2_with fail
        go_end0
        rw [yes.out]
        exact ⟨rfl, GateP.mk_ (s := ⟨s.marks, s.came, s.blk, s.under, s.last, s.over, s.cap ++ [((ch : Int), f)]⟩) H4.at2.tail.at1.at4.at4.at4.at4⟩

/-- A step: kind, record, mark, number, full. -/
abbrev Stp := Int × (Int × Int × Int) × Int × Int × Int
def stv (x : Stp) : Value := .agg #[.int .i64 x.1, .int .i64 x.2.1.1, .int .i64 x.2.1.2.1, .int .i64 x.2.1.2.2, .int .i64 x.2.2.1, .int .u64 x.2.2.2.1, .int .u64 x.2.2.2.2]
def noStep : Stp := (0, (0, 0, 0), 0, 0, 0)
def Gt.raised (s : Gt) (ch : Nat) (m : Int) : List Int := s.marks.set ch (max (s.marks.getD ch 0) m)
def Gt.rise (s : Gt) (ch : Nat) (m : Int) : Gt := ⟨s.raised ch m, s.came, s.blk, s.under, s.last, s.over, s.cap⟩
def Gt.riseS (s : Gt) (ch : Nat) (m : Int) : Stp := if lmin s.marks < lmin (s.raised ch m) then (2, (0, 0, 0), lmin (s.raised ch m), 0, 0) else noStep
theorem rise_part (s : Gt) (p ch g off cm cc cb ck N : Nat) (Ac Ab Ak : Option Addr) (x m y : Int) (w w0 : World) (R : List HP) (hN : s.marks.length = N) (hx : s.marks[ch]? = some x) (hy : max x m = y) (bx : Nat) (o : Obj)
    (H : Hs w0 w (Blk bx o :: Blk p (.cells #[.slice (some ⟨g, off, none⟩) N cm, .slice Ac s.came.length cc, .slice Ab s.blk.length cb, .int .u64 s.under, .int .u64 s.last, .bool s.over, .slice Ak s.cap.length ck] 68 (0, 0)) ::
    Ls (Enc.num .i64) 2 (.slice (some ⟨g, off, none⟩) N cm) s.marks :: Ls Enc.flag 4 (.slice Ac s.came.length cc) s.came :: Ls Enc.flag 4 (.slice Ab s.blk.length cb) s.blk :: Ls EOut 46 (.slice Ak s.cap.length ck) s.cap :: R)) :
    Hs w0 (w.setCell ⟨g, off + ch, none⟩ (.int .i64 y)) (GateP p (s.rise ch m) :: Blk bx o :: R) := by
  have hch : ch < N := by rw [← hN]; exact (List.getElem?_eq_some_iff.1 hx).1
  have h1 := H.at2.ls_set rfl ch hch y (.int .i64 y) rfl
  have h2 : s.marks.set ch y = s.raised ch m := by
    unfold Gt.raised
    rw [← hy]
    simp [List.getD, hx]
  rw [h2] at h1
  exact GateP.mk_ (s := s.rise ch m) (h1.at1.at5.at5.at5.at4.at5)
end Go.Proofs.Ytlhgmfdmkckmhaa

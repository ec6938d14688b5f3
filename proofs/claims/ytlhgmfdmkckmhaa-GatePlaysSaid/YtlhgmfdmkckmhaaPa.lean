import Derived.Test.YtlhgmfdmkckmhaaMd
import Derived.Test.YtlhgmfdmkckmhaaCw
import Derived.Test.YtlhgmfdmkckmhaaProg
import Derived.Test.YtlhgmfdmkckmhaaLs
import Derived.Outline
import Derived.StillTailTactics
import Derived.Deep.DeepCutAuto
import Derived.Deep.CutBlock
import Derived.Deep.LoopGhost
import Derived.Deep.QuietTactic
import Derived.BigQuiet
import Derived.Deep.RegionHeld3
import Derived.Deep.RegionLaw
set_option linter.unusedVariables false
set_option linter.unusedSimpArgs false
namespace Go.Proofs.Ytlhgmfdmkckmhaa
open Go.RowKit
theorem infoc33 : (Try.prog.info? 2).map (fun i => (i.zero, i.size, i.bytes)) = some (some (.int .i64 0), 1, 8) := by kernel_rfl
/-- slices.Clone. -/
theorem clone33 (v : Value) (xs : List (Int)) (w w0 : World) (R : List HP) (H : Hs w0 w R) (hr : RdL (Enc.num .i64) w v xs) (hb : xs.length * 8 ≤ 140737488355328) :
    Calls Try.prog 33 #[v] w fun e w' => ∃ A c, e = .returned (.slice A xs.length c) ∧ Hs w0 w' (Ls (Enc.num .i64) 2 (.slice A xs.length c) xs :: R) := by
  obtain ⟨A, c, rfl⟩ := hr.form
  have hnil := fun w => Lib.run_eql_slice_nil (P := Try.prog) w 50 2 A xs.length c 0 0 Try.underlying50
  cases A with
  | none =>
    have hx : xs = [] := by
      obtain ⟨_, _, he, _, _, _, h4, _⟩ := hr
      injection he with ha _ _
      exact List.eq_nil_of_length_eq_zero (h4 ha.symm).1
    subst hx
    simp only [Option.isNone_none, List.length_nil] at hnil ⊢
    go_enter Try.func33, Try.ntmps33
    go_wp2_with fail
    go_ret
    exact ⟨none, 0, rfl, H.ls_nil _ _⟩
  | some a =>
    simp only [Option.isNone_some] at hnil
    go_enter Try.func33, Try.ntmps33
    go_wp2_with (at_builtin; refine wpList_appendL rfl (.tmp 5) (.tmp 6) 50 rfl 2 _ 1 8 Try.underlying50 infoc33 rfl (by decide) (by decide) rfl rfl _ rfl (H.ls_lit (Enc.num .i64) 2 [] #[] rfl 0 rfl (by omega)) (hr.alloc _) (by simpa using hb) ?_)
    intro A c' w1 H1
    go_wp2_with fail
    go_ret
    exact ⟨_, _, rfl, by simpa using H1⟩
theorem infoc31 : (Try.prog.info? 46).map (fun i => (i.zero, i.size, i.bytes)) = some (some (.agg #[.int .i64 0, .int .i64 0, .int .i64 0, .int .i64 0, .int .i64 0, .int .i64 0, .int .u64 0, .bool false]), 8, 64) := by kernel_rfl
/-- slices.Clone. -/
theorem clone31 (v : Value) (xs : List (Int × Fr)) (w w0 : World) (R : List HP) (H : Hs w0 w R) (hr : RdL (EOut) w v xs) (hb : xs.length * 64 ≤ 140737488355328) :
    Calls Try.prog 31 #[v] w fun e w' => ∃ A c, e = .returned (.slice A xs.length c) ∧ Hs w0 w' (Ls (EOut) 46 (.slice A xs.length c) xs :: R) := by
  obtain ⟨A, c, rfl⟩ := hr.form
  have hnil := fun w => Lib.run_eql_slice_nil (P := Try.prog) w 43 46 A xs.length c 0 0 Try.underlying43
  cases A with
  | none =>
    have hx : xs = [] := by
      obtain ⟨_, _, he, _, _, _, h4, _⟩ := hr
      injection he with ha _ _
      exact List.eq_nil_of_length_eq_zero (h4 ha.symm).1
    subst hx
    simp only [Option.isNone_none, List.length_nil] at hnil ⊢
    go_enter Try.func31, Try.ntmps31
    go_wp2_with fail
    go_ret
    exact ⟨none, 0, rfl, H.ls_nil _ _⟩
  | some a =>
    simp only [Option.isNone_some] at hnil
    go_enter Try.func31, Try.ntmps31
    go_wp2_with (at_builtin; refine wpList_appendL rfl (.tmp 5) (.tmp 6) 43 rfl 46 _ 8 64 Try.underlying43 infoc31 rfl (by decide) (by decide) rfl rfl _ rfl (H.ls_lit (EOut) 46 [] #[] rfl 0 rfl (by omega)) (hr.alloc _) (by simpa using hb) ?_)
    intro A c' w1 H1
    go_wp2_with fail
    go_ret
    exact ⟨_, _, rfl, by simpa using H1⟩
theorem infoI : (Try.prog.info? 2).map (fun i => (i.zero, i.size, i.bytes)) = some (some (.int .i64 0), 1, 8) := by kernel_rfl
theorem infoB : (Try.prog.info? 4).map (fun i => (i.zero, i.size, i.bytes)) = some (some (.bool false), 1, 1) := by kernel_rfl
theorem zeroB (w : World) : (zeroValue 4).run Try.prog w = .ok (.bool false) w := by kernel_rfl
/-- Is b among them? -/
def has (xs : List Bool) (b : Bool) : Bool := xs.contains b
set_option maxRecDepth 100000 in
theorem index38 (A : Option Addr) (n c : Nat) (b : Bool) (xs : List Bool) (w : World) (hr : RdL Enc.flag w (.slice A n c) xs) :
    Calls Try.prog 38 #[.slice A n c, .bool b] w fun e w' => ∃ r : Int, e = .returned (.int .i64 r) ∧ decide (0 ≤ r) = has xs b ∧ w = w' := by
  have hcap := hr.caps.2
  have hn := Lib.hid hr.caps.1
  replace hr := Lib.hid hr
  go_enter Try.func38, Try.ntmps38
  go_wp2_with fail
  go_loopg [8] n (fun k i wr => ∃ (j : Nat), k + j = n ∧ i = .int .i64 j ∧ Hid ((xs.take j).contains b = false) ∧ wr = w)
  case atStart => exact ⟨0, rfl, rfl, by show _ = _; simp, rfl⟩
  case round =>
    obtain ⟨j, hk, rfl, he, rfl⟩ := hrel
    have hjn : j ≤ n := by omega
    replace hk := Lib.hid hk
    rcases Nat.lt_or_ge j n with hj | hj
    · have hj0 : (0 : Int) ≤ (j : Int) := by omega
      have hj1 : (j : Int) < (n : Int) := by omega
      obtain ⟨x, hx⟩ : ∃ x, xs[j]? = some x := ⟨_, List.getElem?_eq_getElem (by have := hn.out; omega)⟩
      obtain ⟨g, off, rfl⟩ := hr.out.some_ (by have := hn.out; omega)
      have s0 : wr.cell? ⟨g, off + j, none⟩ = some (.bool x) := by have := hr.out.cell hx 0 rfl; simpa [Enc.flag] using this
      cases hb : (b == x) with
      | true =>
        have hfin : Hid (xs.contains b = true) := by
          show _ = _
          rw [List.contains_iff_mem]
          have : b = x := by simpa using hb
          rw [this]
          exact List.mem_of_getElem? hx
        replace hx := Lib.hid hx
        go_wp2_with fail
        go_ret
        exact ⟨_, rfl, by unfold has; rw [hfin.out]; simp, rfl⟩
      | false =>
        have hstep : Hid ((xs.take (j + 1)).contains b = false) := by
          show _ = _
          rw [List.take_add_one, hx, List.contains_append, he.out]
          simpa using hb
        replace hx := Lib.hid hx
        go_wp2_with fail
        go_roundg (n - (j + 1))
        case measure => have := hk.out; omega
        case rel => exact ⟨j + 1, by have := hk.out; omega, by go_num, hstep, rfl⟩
    · have hj1 : decide ((j : Int) < (n : Int)) = false := by rw [decide_eq_false_iff_not]; omega
      have hj2 : decide (j < n) = false := by rw [decide_eq_false_iff_not]; omega
      have hfin : Hid (xs.contains b = false) := by
        have h := he.out
        rwa [List.take_of_length_le (by have := hn.out; omega)] at h
      clear hj
      go_wp2_with fail
      go_ret
      exact ⟨-1, rfl, by unfold has; rw [hfin.out]; rfl, rfl⟩
theorem contains36 (A : Option Addr) (n c : Nat) (b : Bool) (xs : List Bool) (w : World) (hr : RdL Enc.flag w (.slice A n c) xs) :
    Calls Try.prog 36 #[.slice A n c, .bool b] w fun e w' => e = .returned (.bool (has xs b)) ∧ w = w' := by
  go_enter Try.func36, Try.ntmps36
  go_wp2_with fail
  refine (index38 A n c b xs w hr).mono ?_
  rintro e w1 ⟨r, rfl, h, rfl⟩
  go_wp2_with fail
  go_ret
  exact ⟨by rw [← h]; rfl, rfl⟩
def lmin : List Int → Int
  | [] => 0
  | x :: r => r.foldl min x
theorem lmin_snoc (xs : List Int) (x : Int) (h : xs ≠ []) : lmin (xs ++ [x]) = min (lmin xs) x := by
  cases xs with
  | nil => exact absurd rfl h
  | cons a l => simp [lmin, List.foldl_append]
set_option maxRecDepth 100000 in
theorem min32 (A : Option Addr) (n c : Nat) (xs : List Int) (w : World) (hr : RdL (Enc.num .i64) w (.slice A n c) xs) (hn0 : 0 < n) :
    Calls Try.prog 32 #[.slice A n c] w fun e w' => e = .returned (.int .i64 (lmin xs)) ∧ w = w' := by
  have hcap := hr.caps.2
  have hn := Lib.hid hr.caps.1
  obtain ⟨g, off, rfl⟩ := hr.some_ (by have := hn.out; omega)
  obtain ⟨x0, hx0⟩ : ∃ x, xs[0]? = some x := ⟨_, List.getElem?_eq_getElem (by have := hn.out; omega)⟩
  have c0 : w.cell? ⟨g, off, none⟩ = some (.int .i64 x0) := by have := hr.cell hx0 0 rfl; simpa [Enc.num] using this
  have hn1 : (0 : Int) < (n : Int) := by omega
  have hn2 : decide ((n : Int) < 1) = false := by rw [decide_eq_false_iff_not]; omega
  have hn3 : decide (n < 1) = false := by rw [decide_eq_false_iff_not]; omega
  have h1 : Hid (lmin (xs.take 1) = x0) := by
    show _ = _
    cases xs with
    | nil => simp at hx0
    | cons a l => simp at hx0; subst hx0; rfl
  replace hr := Lib.hid hr
  replace hx0 := Lib.hid hx0
  replace hn0 := Lib.hid hn0
  go_enter Try.func32, Try.ntmps32
  go_wp2_with fail
  clear c0 hn2 hn3
  go_loopg [3, 4] (n - 1) (fun k mv iv wr => ∃ (j : Nat) (m : Int), k + j = n ∧ 1 ≤ j ∧ iv = .int .i64 j ∧ mv = .int .i64 m ∧ Hid (lmin (xs.take j) = m) ∧ wr = w)
  case atStart => exact ⟨1, x0, by have := hn0.out; omega, by omega, rfl, rfl, h1, rfl⟩
  case round =>
    obtain ⟨j, m, hk, hj1', rfl, rfl, he, rfl⟩ := hrel
    have hjn : j ≤ n := by omega
    replace hk := Lib.hid hk
    rcases Nat.lt_or_ge j n with hj | hj
    · have hj0 : (0 : Int) ≤ (j : Int) := by omega
      have hj1 : (j : Int) < (n : Int) := by omega
      obtain ⟨x, hx⟩ : ∃ x, xs[j]? = some x := ⟨_, List.getElem?_eq_getElem (by have := hn.out; omega)⟩
      have s0 : wr.cell? ⟨g, off + j, none⟩ = some (.int .i64 x) := by have := hr.out.cell hx 0 rfl; simpa [Enc.num] using this
      have hstep : Hid (lmin (xs.take (j + 1)) = min m x) := by
        show _ = _
        rw [List.take_add_one, hx]
        show lmin (xs.take j ++ [x]) = _
        rw [lmin_snoc _ _ (fun h => by have h2 := congrArg List.length h; rw [List.length_take, List.length_nil] at h2; have := hn.out; omega), he.out]
      replace hx := Lib.hid hx
      go_wp2_with fail
      all_goals
        go_roundg (n - (j + 1))
        case measure => have := hk.out; omega
        case rel => exact ⟨j + 1, _, by have := hk.out; omega, by omega, by go_num, rfl, by show _ = _; rw [hstep.out]; omega, rfl⟩
    · have hj1 : decide ((j : Int) < (n : Int)) = false := by rw [decide_eq_false_iff_not]; omega
      have hj2 : decide (j < n) = false := by rw [decide_eq_false_iff_not]; omega
      have hfin : Hid (lmin xs = m) := by
        have h := he.out
        rwa [List.take_of_length_le (by have := hn.out; omega)] at h
      clear hj
      go_wp2_with fail
      go_ret
      rw [hfin.out]
      exact ⟨rfl, rfl⟩
/-! ### what a gate tells -/
section
variable (p : Nat) (s : Gt) (w w0 : World) (R : List HP) (H : Hs w0 w (GateP p s :: R))
include H
theorem mark17 (hn : s.marks ≠ []) : Calls Try.prog 17 #[.pointer (some ⟨p, 0, none⟩)] w fun e w' => e = .returned (.int .i64 (lmin s.marks)) ∧ w = w' := by
  obtain ⟨Am, cm, Ac, cc, Ab, cb, Ak, ck, H⟩ := GateP.open_ H
  have k0 : w.cell? ⟨p, 0, none⟩ = some (.slice Am s.marks.length cm) := H.cellOf 0 rfl
  have hr := Lib.hid H.at1.ls_rd
  have hp : 0 < s.marks.length := List.length_pos_iff.2 hn
  clear H hn
  replace hp := Lib.hid hp
  go_enter Try.func17, Try.ntmps17
  go_wp2_with fail
  refine (min32 Am _ cm s.marks w hr.out hp.out).mono ?_
  rintro e w1 ⟨rfl, rfl⟩
  go_wp2_with fail
  go_ret
  exact ⟨rfl, rfl⟩
theorem under20 : Calls Try.prog 20 #[.pointer (some ⟨p, 0, none⟩)] w fun e w' => e = .returned (.int .u64 s.under) ∧ w = w' := by
  obtain ⟨Am, cm, Ac, cc, Ab, cb, Ak, ck, H⟩ := GateP.open_ H
  have k0 : w.cell? ⟨p, 3, none⟩ = some (.int .u64 s.under) := H.cellOf 3 rfl
  go_enter Try.func20, Try.ntmps20
  go_wp2_with fail
  go_ret
  exact ⟨rfl, rfl⟩
theorem last21 : Calls Try.prog 21 #[.pointer (some ⟨p, 0, none⟩)] w fun e w' => e = .returned (.int .u64 s.last) ∧ w = w' := by
  obtain ⟨Am, cm, Ac, cc, Ab, cb, Ak, ck, H⟩ := GateP.open_ H
  have k0 : w.cell? ⟨p, 4, none⟩ = some (.int .u64 s.last) := H.cellOf 4 rfl
  go_enter Try.func21, Try.ntmps21
  go_wp2_with fail
  go_ret
  exact ⟨rfl, rfl⟩
theorem all37 : Calls Try.prog 37 #[.pointer (some ⟨p, 0, none⟩)] w fun e w' => e = .returned (.bool (!has s.came false)) ∧ w = w' := by
  obtain ⟨Am, cm, Ac, cc, Ab, cb, Ak, ck, H⟩ := GateP.open_ H
  have k0 : w.cell? ⟨p, 1, none⟩ = some (.slice Ac s.came.length cc) := H.cellOf 1 rfl
  have hr := Lib.hid H.at2.ls_rd
  clear H
  go_enter Try.func37, Try.ntmps37
  go_wp2_with fail
  refine (contains36 Ac _ cc false s.came w hr.out).mono ?_
  rintro e w1 ⟨rfl, rfl⟩
  go_wp2_with fail
  go_ret
  exact ⟨rfl, rfl⟩
theorem marks19 (hb : s.marks.length ≤ 1000000) : Calls Try.prog 19 #[.pointer (some ⟨p, 0, none⟩)] w fun e w' => ∃ A c, e = .returned (.slice A s.marks.length c) ∧ Hs w0 w' (Ls (Enc.num .i64) 2 (.slice A s.marks.length c) s.marks :: GateP p s :: R) := by
  have HC := Lib.hid H
  obtain ⟨Am, cm, Ac, cc, Ab, cb, Ak, ck, H⟩ := GateP.open_ H
  have k0 : w.cell? ⟨p, 0, none⟩ = some (.slice Am s.marks.length cm) := H.cellOf 0 rfl
  have hr := Lib.hid H.at1.ls_rd
  clear H
  go_enter Try.func19, Try.ntmps19
  go_wp2_with fail
  refine (clone33 _ s.marks w w0 _ HC.out hr.out (by omega)).mono ?_
  rintro e w1 ⟨A1, k1, rfl, H1⟩
  go_wp2_with fail
  go_ret
  exact ⟨_, _, rfl, H1⟩
theorem captured16 (hb : s.cap.length ≤ 1000000) : Calls Try.prog 16 #[.pointer (some ⟨p, 0, none⟩)] w fun e w' => ∃ A c, e = .returned (.slice A s.cap.length c) ∧ Hs w0 w' (Ls EOut 46 (.slice A s.cap.length c) s.cap :: GateP p s :: R) := by
  have HC := Lib.hid H
  obtain ⟨Am, cm, Ac, cc, Ab, cb, Ak, ck, H⟩ := GateP.open_ H
  have k0 : w.cell? ⟨p, 6, none⟩ = some (.slice Ak s.cap.length ck) := H.cellOf 6 rfl
  have hr := Lib.hid H.at4.ls_rd
  clear H
  go_enter Try.func16, Try.ntmps16
  go_wp2_with fail
  refine (clone31 _ s.cap w w0 _ HC.out hr.out (by omega)).mono ?_
  rintro e w1 ⟨A1, k1, rfl, H1⟩
  go_wp2_with fail
  go_ret
  exact ⟨_, _, rfl, H1⟩
/-- Is a channel blocked? -/
def Gt.blocked (s : Gt) (ch : Int) : Bool := decide (0 ≤ ch) && (s.blk[ch.toNat]?.getD false)
theorem blocked13 (ch : Int) : Calls Try.prog 13 #[.pointer (some ⟨p, 0, none⟩), .int .i64 ch] w fun e w' => e = .returned (.bool (s.blocked ch)) ∧ w = w' := by
  obtain ⟨Am, cm, Ac, cc, Ab, cb, Ak, ck, H⟩ := GateP.open_ H
  have k0 : w.cell? ⟨p, 2, none⟩ = some (.slice Ab s.blk.length cb) := H.cellOf 2 rfl
  have hcap := H.at3.ls_rd.caps.2
  rcases (show ch < 0 ∨ (0 ≤ ch ∧ ch < s.blk.length) ∨ (0 ≤ ch ∧ (s.blk.length : Int) ≤ ch) by omega) with h | ⟨h, h'⟩ | ⟨h, h'⟩
  · have hb : Hid (s.blocked ch = false) := by show _ = _; unfold Gt.blocked; rw [decide_eq_false (by omega)]; rfl
    have h1 : decide (0 ≤ ch) = false := by rw [decide_eq_false_iff_not]; omega
    clear H h
    go_enter Try.func13, Try.ntmps13
    go_wp2_with fail
    go_ret
    rw [hb.out]
    exact ⟨rfl, rfl⟩
  · obtain ⟨k, rfl⟩ := Int.eq_ofNat_of_zero_le h
    obtain ⟨x, hx⟩ : ∃ x, s.blk[k]? = some x := ⟨_, List.getElem?_eq_getElem (by omega)⟩
    obtain ⟨g, off, rfl⟩ := H.at3.ls_rd.some_ (by omega)
    have cx : w.cell? ⟨g, off + k, none⟩ = some (.bool x) := by have := H.at3.ls_rd.cell hx 0 rfl; simpa [Enc.flag] using this
    have hb : Hid (s.blocked (k : Int) = x) := by show _ = _; unfold Gt.blocked; rw [decide_eq_true h, Int.toNat_natCast, hx]; rfl
    replace hx := Lib.hid hx
    clear H
    go_enter Try.func13, Try.ntmps13
    go_wp2_with fail
    go_ret
    rw [hb.out]
    exact ⟨rfl, rfl⟩
  · have hb : Hid (s.blocked ch = false) := by show _ = _; unfold Gt.blocked; rw [List.getElem?_eq_none (by omega)]; simp
    have h1 : decide (ch < (s.blk.length : Int)) = false := by rw [decide_eq_false_iff_not]; omega
    clear H h'
    go_enter Try.func13, Try.ntmps13
    go_wp2_with fail
    go_ret
    rw [hb.out]
    exact ⟨rfl, rfl⟩
/-- A checkpoint begins. -/
def Gt.begin (s : Gt) (n : Int) (over : Bool) : Gt := ⟨s.marks, List.replicate s.came.length false, List.replicate s.blk.length false, n, s.last, over, []⟩
theorem begin34 (n : Int) (over : Bool) : Calls Try.prog 34 #[.pointer (some ⟨p, 0, none⟩), .int .u64 n, .bool over] w fun e w' => e = .returned (.tuple #[]) ∧ Hs w0 w' (GateP p (s.begin n over) :: R) := by
  obtain ⟨Am, cm, Ac, cc, Ab, cb, Ak, ck, H⟩ := GateP.open_ H
  have k1 : w.cell? ⟨p, 1, none⟩ = some (.slice Ac s.came.length cc) := H.cellOf 1 rfl
  obtain ⟨w1, hrun1, H1⟩ := run_clear_own (P := Try.prog) (E := Enc.flag) H.at2 44 0 false (.bool false) rfl rfl Try.underlying44 zeroB rfl rfl
  have k2 : w1.cell? ⟨p, 2, none⟩ = some (.slice Ab s.blk.length cb) := H1.at1.cellOf 2 rfl
  obtain ⟨w2, hrun2, H2⟩ := run_clear_own (P := Try.prog) (E := Enc.flag) H1.at3 44 0 false (.bool false) rfl rfl Try.underlying44 zeroB rfl rfl
  have f3 := H2.at2.frozenOf 3
  have f5 := H2.at2.frozenOf 5
  have f6 := H2.at2.frozenOf 6
  have d3 := H2.at2.cellOf 3 rfl
  have d5 := H2.at2.cellOf 5 rfl
  have d6 := H2.at2.cellOf 6 rfl
  have H3 := Lib.hid (((H2.at2.setCell (i := 3) (.int .u64 n)).setCell (i := 5) (.bool over)).setCell (i := 6) (.slice none 0 0))
  clear H H1 H2
  go_enter Try.func34, Try.ntmps34
  go_wp2_with fail
  go_end0
  exact ⟨rfl, GateP.mk_ (s := s.begin n over) (H3.out.at4.tail.ls_nil EOut 46).at2.at3.at4.at4⟩
end
end Go.Proofs.Ytlhgmfdmkckmhaa

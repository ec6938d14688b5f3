import Derived.Test.YtjlonfldcmcchaaKn
import Derived.IntWalk
import Derived.Test.YtjlonfldcmcchaaProg
import Derived.Test.YtjlonfldcmcchaaLs
import Derived.Outline
import Derived.StillTailTactics
import Derived.Deep.DeepCutAuto
import Derived.Deep.CutBlock
import Derived.Deep.LoopGhost
import Derived.Deep.QuietTactic
import Derived.BigQuiet
import Derived.Deep.RegionHeld3
import Derived.Deep.RegionLaw
set_option linter.unusedVariables false
set_option linter.unusedSimpArgs false
namespace Go.Proofs.Ytjlonfldcmcchaa
open Go.RowKit
theorem below_of {w w' : World} {R : List HP} (H : Hs w w' (Old w :: R)) : Below w.heap.size w w' := H.under_old
def Lg.stE (s : Lg) (n t : Int) : Int := if t ≤ (s.pt n).top then 170 else 0
def Lg.stage (s : Lg) (n t : Int) (r : List Rec) : Lg := if t ≤ (s.pt n).top then s else s.put n t r
def Lg.cmE (s : Lg) (n t : Int) : Int := if t ≤ (s.pt n).last then 0 else if (s.pt n).l.any (fun x => x.1 == t) then 0 else 171
def Lg.cm (s : Lg) (n t : Int) : Lg := if t ≤ (s.pt n).last then s else if (s.pt n).l.any (fun x => x.1 == t) then s.commit n t else s
structure Lg.Ok (s : Lg) (B C : Nat) : Prop where
  pos : ∀ n, ∀ x ∈ (s.pt n).l, 0 < x.1
  dn : ∀ n, (s.pt n).dn ≤ (s.pt n).l.length
  len : ∀ n, (s.pt n).l.length ≤ B
  flat : ∀ n, ((s.pt n).l.flatMap (·.2)).length ≤ B
  all : s.all.length ≤ C
theorem Lg.Ok.new : (⟨fun _ => ⟨[], 0⟩, []⟩ : Lg).Ok 0 0 := ⟨by simp, by simp, by simp, by simp, by simp⟩
theorem Lg.Ok.more {s : Lg} {B C B' C' : Nat} (h : s.Ok B C) (hb : B ≤ B') (hc : C ≤ C') : s.Ok B' C' := ⟨h.pos, h.dn, fun n => Nat.le_trans (h.len n) hb, fun n => Nat.le_trans (h.flat n) hb, Nat.le_trans h.all hc⟩
theorem Lg.Ok.pt {s : Lg} {B C : Nat} (h : s.Ok B C) (hb : B ≤ 100000) (n : Int) : (s.pt n).Ok := ⟨h.dn n, by have := h.len n; omega⟩
theorem Lg.Ok.top {s : Lg} {B C : Nat} (h : s.Ok B C) (n : Int) : 0 ≤ (s.pt n).top := by
  unfold Pt.top
  cases hl : (s.pt n).l.getLast? with
  | none => simp
  | some x =>
    have := h.pos n x (List.mem_of_getLast? hl)
    simp
    omega
theorem Lg.Ok.at {s s' : Lg} {B C B' C' : Nat} (h : s.Ok B C) (n : Int) (q : Pt) (hs : s'.pt = upd s.pt n q) (hb : B ≤ B') (h1 : ∀ x ∈ q.l, 0 < x.1) (h2 : q.dn ≤ q.l.length) (h3 : q.l.length ≤ B') (h4 : (q.l.flatMap (·.2)).length ≤ B') (h5 : s'.all.length ≤ C') : s'.Ok B' C' := by
  refine ⟨fun m => ?_, fun m => ?_, fun m => ?_, fun m => ?_, h5⟩
  all_goals
    rw [hs]
    unfold upd
    split
  · exact h1
  · exact h.pos m
  · exact h2
  · exact h.dn m
  · exact h3
  · exact Nat.le_trans (h.len m) hb
  · exact h4
  · exact Nat.le_trans (h.flat m) hb
theorem Lg.Ok.stage {s : Lg} {B C : Nat} (h : s.Ok B C) (n t : Int) (r : List Rec) : (s.stage n t r).Ok (B + 1 + r.length) C := by
  unfold Lg.stage
  split
  · exact h.more (by omega) (Nat.le_refl _)
  · rename_i ht
    have h0 := h.top n
    refine h.at n _ rfl (by omega) ?_ ?_ ?_ ?_ h.all
    · intro x hx
      rcases List.mem_append.1 hx with hx | hx
      · exact h.pos n x hx
      · rw [List.mem_singleton.1 hx]; show 0 < t; omega
    · have := h.dn n; simp; omega
    · have := h.len n; simp; omega
    · have := h.flat n
      simp only [List.flatMap_append, List.length_append, List.flatMap_cons, List.flatMap_nil, List.append_nil]
      omega
theorem fresh_len (s : Pt) (t : Int) (hd : s.dn ≤ s.l.length) : s.dn + (s.fresh t).length ≤ s.l.length := by
  have := (List.takeWhile_sublist (fun x : Int × List Rec => decide (x.1 ≤ t)) (l := s.l.drop s.dn)).length_le
  rw [List.length_drop] at this
  unfold Pt.fresh
  omega
theorem fresh_flat (s : Pt) (t : Int) : ((s.fresh t).flatMap (·.2)).length ≤ (s.l.flatMap (·.2)).length := by
  have h1 : s.l = s.l.take s.dn ++ (s.fresh t ++ (s.l.drop s.dn).dropWhile fun x => decide (x.1 ≤ t)) := by
    unfold Pt.fresh
    rw [List.takeWhile_append_dropWhile, List.take_append_drop]
  have h2 := congrArg (fun l => (l.flatMap (·.2)).length) h1
  simp only [List.flatMap_append, List.length_append] at h2
  omega
theorem Lg.Ok.cm {s : Lg} {B C : Nat} (h : s.Ok B C) (n t : Int) : (s.cm n t).Ok B (C + B) := by
  unfold Lg.cm
  split
  · exact h.more (Nat.le_refl _) (by omega)
  · split
    · refine h.at n _ rfl (Nat.le_refl _) (h.pos n) (fresh_len _ t (h.dn n)) (h.len n) (h.flat n) ?_
      have h1 := fresh_flat (s.pt n) t
      have h2 := h.flat n
      have h3 := h.all
      show (s.all ++ _).length ≤ _
      rw [List.length_append]
      omega
    · exact h.more (Nat.le_refl _) (by omega)
theorem cutAt_ge (l : List (Int × List Rec)) (dn : Nat) (t : Int) : ∀ k, dn ≤ k → dn ≤ cutAt l dn t k
  | 0, h => h
  | k + 1, h => by
    rw [cutAt]
    split
    · rename_i hc
      exact cutAt_ge l dn t k (by omega)
    · exact h
theorem cutAt_le (l : List (Int × List Rec)) (dn : Nat) (t : Int) : ∀ k, cutAt l dn t k ≤ k
  | 0 => Nat.le_refl _
  | k + 1 => by
    rw [cutAt]
    split
    · have := cutAt_le l dn t k; omega
    · omega
theorem Lg.Ok.abort {s : Lg} {B C : Nat} (h : s.Ok B C) (n t : Int) : (s.abort n t).Ok B C := by
  refine h.at n _ rfl (Nat.le_refl _) ?_ ?_ ?_ ?_ h.all
  · exact fun x hx => h.pos n x (List.mem_of_mem_take hx)
  · have h1 := cutAt_ge (s.pt n).l (s.pt n).dn t _ (h.dn n)
    have h2 := cutAt_le (s.pt n).l (s.pt n).dn t (s.pt n).l.length
    simp only [List.length_take]
    omega
  · have := h.len n
    simp only [List.length_take]
    omega
  · have h0 := h.flat n
    simp only
    generalize cutAt _ _ _ _ = k
    have h1 := congrArg (fun l => (l.flatMap (·.2)).length) (List.take_append_drop k (s.pt n).l)
    simp only [List.flatMap_append, List.length_append] at h1
    omega
section
variable (lp : Nat) (n t : Int) (s : Lg) (B C : Nat) (w w0 : World) (R : List HP) (H : Hs w0 w (Log lp s :: R)) (hs : s.Ok B C) (hB : B ≤ 100000) (hC : C ≤ 700000)
include H hs hB
theorem stage_tot (rv : Value) (recs : List Rec) (hr : ∀ w', Hs w0 w' R → RdL ERec w' rv recs) (hl : recs.length ≤ 100000) (h0 : 0 ≤ t) :
    Calls Try.prog 11 #[.pointer (some ⟨lp, 0, none⟩), .int .i64 n, .int .u64 t, rv] w fun e w' => e = .returned (.int .i64 (s.stE n t)) ∧ Hs w0 w' (Log lp (s.stage n t recs) :: R) := by
  unfold Lg.stE Lg.stage
  by_cases ht : t ≤ (s.pt n).top
  · simp only [if_pos ht]
    exact stage_no lp n t rv s w w0 R H (hs.pt hB n) h0 ht
  · simp only [if_neg ht]
    have := hs.top n
    exact stage_ok lp n t rv recs s w w0 R H hr (by omega) (hs.pt hB n) (by omega) (by omega)
include hC in
theorem commit_tot : Calls Try.prog 13 #[.pointer (some ⟨lp, 0, none⟩), .int .i64 n, .int .u64 t] w fun e w' => e = .returned (.int .i64 (s.cmE n t)) ∧ Hs w0 w' (Log lp (s.cm n t) :: R) := by
  unfold Lg.cmE Lg.cm
  by_cases ht : t ≤ (s.pt n).last
  · simp only [if_pos ht]
    exact commit_old lp n t s w w0 R H (hs.pt hB n) ht
  · simp only [if_neg ht]
    cases ha : (s.pt n).l.any (fun x => x.1 == t) with
    | true =>
      simp only [if_true]
      have h1 := hs.all
      have h2 := hs.flat n
      exact commit_go lp n t s w w0 R H (hs.pt hB n) (by omega) ha (by omega)
    | false =>
      simp only [Bool.false_eq_true, if_false]
      exact commit_none lp n t s w w0 R H (hs.pt hB n) (by omega) ha
theorem abort_tot : Calls Try.prog 15 #[.pointer (some ⟨lp, 0, none⟩), .int .i64 n, .int .u64 t] w fun e w' => e = .returned (.tuple #[]) ∧ Hs w0 w' (Log lp (s.abort n t) :: R) :=
  abort15 lp n t s w w0 R H (hs.pt hB n)
end
/-! ### light -/
abbrev EStep : Enc (Int × Int × Int × Slc) := (Enc.num .i64).pair ((Enc.num .i64).pair ((Enc.num .u64).pair Enc.slc))
def StOk (W : World) (x : Int × Int × Int × Slc) : Prop := (Lit.int .i64 x.1).wf = true ∧ (Lit.int .i64 x.2.1).wf = true ∧ (Lit.int .u64 x.2.2.1).wf = true ∧ x.2.2.2.2.1 * 24 ≤ reachBytes ∧ ∃ xs, RdL ERec W (.slice x.2.2.2.1 x.2.2.2.2.1 x.2.2.2.2.2) xs
def wsum (ss : List (Int × Int × Int × Slc)) : Nat := (ss.map fun x => 1 + x.2.2.2.2.1).sum
theorem wsum_snoc (ss : List (Int × Int × Int × Slc)) (j : Nat) (x : Int × Int × Int × Slc) (h : ss[j]? = some x) : wsum (ss.take (j + 1)) = wsum (ss.take j) + 1 + x.2.2.2.2.1 := by
  rw [List.take_add_one, h]
  simp [wsum]
  omega
theorem wsum_take (ss : List (Int × Int × Int × Slc)) (j : Nat) : wsum (ss.take j) ≤ wsum ss := by
  have := congrArg wsum (List.take_append_drop j ss)
  simp only [wsum, List.map_append, List.sum_append] at this ⊢
  omega
set_option maxRecDepth 100000 in
theorem light9 (A : Option Addr) (n c : Nat) (ss : List (Int × Int × Int × Slc)) (w : World) (hr : RdL EStep w (.slice A n c) ss) (hok : ∀ x ∈ ss, x.2.2.2.2.1 * 24 ≤ reachBytes) :
    Calls Try.prog 9 #[.slice A n c] w fun e w' => ∃ b, e = .returned (.bool b) ∧ w = w' ∧ (b = true → n ≤ 200 ∧ wsum ss ≤ 3000) := by
  have hcap := hr.caps.2
  have hn := Lib.hid hr.caps.1
  replace hr := Lib.hid hr
  replace hok := Lib.hid hok
  go_enter Try.func9, Try.ntmps9
  go_wp2_with fail
  go_loopg [3, 4] n (fun k sv iv wr => ∃ (j S : Nat), k + j = n ∧ iv = .int .i64 j ∧ sv = .int .i64 S ∧ Hid (S = wsum (ss.take j)) ∧ S ≤ 100000000000000 ∧ wr = w)
  case atStart => exact ⟨0, 0, rfl, rfl, rfl, by show _ = _; simp [wsum], by omega, rfl⟩
  case round =>
    obtain ⟨j, S, hk, rfl, rfl, hS, hS2, rfl⟩ := hrel
    have hjn : j ≤ n := by omega
    replace hk := Lib.hid hk
    rcases Nat.lt_or_ge j n with hj | hj
    · have hj1 : (j : Int) < (n : Int) := by omega
      rcases (show (S : Int) ≤ 3000 ∨ 3000 < S by omega) with h3 | h3
      · obtain ⟨g, off, rfl⟩ := hr.out.some_ (by have := hn.out; omega)
        obtain ⟨x, hx⟩ : ∃ x, ss[j]? = some x := ⟨_, List.getElem?_eq_getElem (by have := hn.out; omega)⟩
        have hb := hok.out x (List.mem_of_getElem? hx)
        have hws := wsum_snoc ss j x hx
        rw [← hS.out] at hws
        have c0 : wr.cell? ⟨g, off + j * 4 + 3, none⟩ = some (.slice x.2.2.2.1 x.2.2.2.2.1 x.2.2.2.2.2) := by have := hr.out.cell hx 3 rfl; rwa [show off + (j * EStep.sz + 3) = off + j * 4 + 3 from by show off + (j * 4 + 3) = _; omega] at this
        replace hx := Lib.hid hx
        generalize x.2.2.2.2.1 = m at *
        have hm : m ≤ 10000000000000 := by unfold reachBytes at hb; omega
        have hj0 : (0 : Int) ≤ (j : Int) := by omega
        have hw1 : IntKind.i64.wrap ((S : Int) + 1) = (S : Int) + 1 := IntWalk.i64_in _ (by omega)
        obtain ⟨S2, hS2'⟩ : ∃ S2, S2 = S + 1 + m := ⟨_, rfl⟩
        have hw2 : IntKind.i64.wrap ((S : Int) + 1 + (m : Int)) = (S2 : Int) := by rw [IntWalk.i64_in _ (by omega)]; omega
        replace hS2' := Lib.hid hS2'
        replace hws := Lib.hid hws
        clear hb
        go_wp2_with fail
        go_roundg (n - (j + 1))
        case measure => have := hk.out; omega
        case rel => exact ⟨j + 1, S2, by have := hk.out; omega, by go_num, rfl, by show _ = _; rw [hws.out, hS2'.out], by have := hS2'.out; omega, rfl⟩
      · have h4 : decide ((S : Int) ≤ 3000) = false := by rw [decide_eq_false_iff_not]; omega
        have h5 : decide (S ≤ 3000) = false := by rw [decide_eq_false_iff_not]; omega
        clear h3
        go_wp2_with fail
        go_ret
        exact ⟨false, rfl, rfl, fun h => by cases h⟩
    · have hj1 : decide ((j : Int) < (n : Int)) = false := by rw [decide_eq_false_iff_not]; omega
      have hj2 : decide (j < n) = false := by rw [decide_eq_false_iff_not]; omega
      have hfin : Hid (S = wsum ss) := by
        show _ = _
        rw [hS.out, List.take_of_length_le (by have := hn.out; omega)]
      clear hj
      rcases (show (S : Int) ≤ 3000 ∨ 3000 < S by omega) with h3 | h3
      · rcases (show (n : Int) ≤ 200 ∨ 200 < n by omega) with h6 | h6
        · go_wp2_with fail
          go_ret
          exact ⟨true, rfl, rfl, fun _ => ⟨by omega, by rw [← hfin.out]; omega⟩⟩
        · have h7 : decide ((n : Int) ≤ 200) = false := by rw [decide_eq_false_iff_not]; omega
          have h8 : decide (n ≤ 200) = false := by rw [decide_eq_false_iff_not]; omega
          clear h6
          go_wp2_with fail
          go_ret
          exact ⟨false, rfl, rfl, fun h => by cases h⟩
      · have h4 : decide ((S : Int) ≤ 3000) = false := by rw [decide_eq_false_iff_not]; omega
        have h5 : decide (S ≤ 3000) = false := by rw [decide_eq_false_iff_not]; omega
        clear h3
        go_wp2_with fail
        go_ret
        exact ⟨false, rfl, rfl, fun h => by cases h⟩
end Go.Proofs.Ytjlonfldcmcchaa

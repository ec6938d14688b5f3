import Derived.Test.YtjdkpogkhecijaaP2
import Derived.Test.YtjdkpogkhecijaaRr
import Derived.IntWalk
import Derived.Laws.BytesArg
import Derived.WideShapes
import Derived.Test.YtjdkpogkhecijaaProg
import Derived.Test.YtjdkpogkhecijaaLs
import Derived.Outline
import Derived.StillTailTactics
import Derived.Deep.DeepCutAuto
import Derived.Deep.CutBlock
import Derived.Deep.LoopGhost
import Derived.Deep.QuietTactic
import Derived.BigQuiet
import Derived.Deep.RegionHeld3
import Derived.Deep.RegionLaw
set_option linter.unusedVariables false
set_option linter.unusedSimpArgs false
namespace Go.Proofs.Ytjdkpogkhecijaa
open Go.RowKit
open Go.WideShapes (bytes_inj)
theorem conv_bytes {w : World} {v : Value} {bs : List Int} (h : RdL U8 w v bs) : (convert 22 9 v).run Try.prog w = .ok (.string (strOfNums bs)) w := by
  obtain ⟨A, c, rfl⟩ := h.form
  cases A with
  | none =>
    have hx : bs = [] := by
      obtain ⟨_, _, he, _, _, _, h4, _⟩ := h
      injection he with ha _ _
      exact List.eq_nil_of_length_eq_zero (h4 ha.symm).1
    subst hx
    exact run_convert_bytes_nil w 22 5 Try.underlying22 Try.underlying5 _ c 9 Try.underlying9
  | some a =>
    rcases Nat.eq_zero_or_pos bs.length with hz | hz
    · obtain rfl := List.eq_nil_of_length_eq_zero hz
      rw [List.length_nil, run_convert_bytes_string w 22 9 5 _ _ c Try.underlying22 Try.underlying5 Try.underlying9]
      simp [Conv.bytesToString, loadCells]
      rfl
    · obtain ⟨g, off, ha⟩ := h.some_ hz
      cases ha
      refine run_convert_bytes_arg w 22 5 Try.underlying22 Try.underlying5 g off bs.length c bs rfl (fun i hi => ?_) 9 Try.underlying9
      have := h.cell (i := i) (x := bs[i]) (List.getElem?_eq_getElem hi) 0 rfl
      simpa [Enc.num, List.getD, List.getElem?_eq_getElem hi] using this
theorem str_inj {xs ys : List Int} (hx : Byt xs) (hy : Byt ys) (h : strOfNums xs = strOfNums ys) : xs = ys := by
  have h1 : (xs.map fun n => UInt8.ofNat n.toNat) = ys.map fun n => UInt8.ofNat n.toNat := by rw [← strOfNums_data, ← strOfNums_data, h]
  have : ∀ (xs ys : List Int), Byt xs → Byt ys → (xs.map fun n => UInt8.ofNat n.toNat) = (ys.map fun n => UInt8.ofNat n.toNat) → xs = ys := by
    intro xs
    induction xs with
    | nil => intro ys _ _ h; cases ys with
      | nil => rfl
      | cons y r => cases h
    | cons x r ih =>
      intro ys hx hy h
      cases ys with
      | nil => cases h
      | cons y s =>
        rw [List.map_cons, List.map_cons] at h
        injection h with h1 h2
        have hx0 := hx x (by simp)
        have hy0 := hy y (by simp)
        have h3 : x.toNat % 256 = y.toNat % 256 := by have := congrArg UInt8.toNat h1; simpa using this
        have : x = y := by omega
        rw [this, ih s (fun z hz => hx z (by simp [hz])) (fun z hz => hy z (by simp [hz])) h2]
  exact this xs ys hx hy h1
set_option maxRecDepth 100000 in
set_option maxHeartbeats 800000 in
theorem equal75 (v1 v2 : Value) (xs ys : List Int) (w : World) (h1 : RdL U8 w v1 xs) (h2 : RdL U8 w v2 ys) (hx : Byt xs) (hy : Byt ys) : Calls Try.prog 75 #[v1, v2] w fun e w' => e = .returned (.bool (decide (xs = ys))) ∧ w = w' := by
  have c1 := conv_bytes h1
  have c2 := conv_bytes h2
  have hs : ((strOfNums xs).toList == (strOfNums ys).toList) = decide (xs = ys) := by
    by_cases h : xs = ys
    · subst h; simp
    · rw [decide_eq_false h, beq_eq_false_iff_ne, ByteArray.toList_eq, ByteArray.toList_eq]
      exact fun h3 => h (str_inj hx hy (bytes_inj h3))
  replace hs := Lib.hid hs
  clear h1 h2 hx hy
  go_enter Try.func75, Try.ntmps75
  go_wp2_with fail
  go_ret
  exact ⟨by rw [← hs.out]; rfl, rfl⟩
set_option maxRecDepth 100000 in
set_option maxHeartbeats 800000 in
theorem whole47 (p : Nat) (v vb va : Value) (l b a : List Int) (bad : Bool) (er : Int) (w w0 : World) (R : List HP) (H : Hs w0 w (Blk p (.cells #[v, .bool bad] 90) :: R)) (h1 : RdL U8 w v l) (h2 : RdL U8 w vb b) (h3 : RdL U8 w va a) (hb : Byt b) (ha : Byt a) :
    Calls Try.prog 47 #[.pointer (some ⟨p, 0, none⟩), vb, va, .int .i64 er] w fun e w' => e = .returned (.bool (!bad && (l.isEmpty && (er == 0 && decide (b = a))))) ∧ w = w' := by
  have T := Lib.hid (equal75 vb va b a w h2 h3 hb ha)
  obtain ⟨A, c, rfl⟩ := h1.form
  obtain ⟨B, d, rfl⟩ := h2.form
  obtain ⟨C, f, rfl⟩ := h3.form
  have p0 : w.cell? ⟨p, 0, none⟩ = some (.slice A l.length c) := H.cellOf 0 rfl
  have p1 : w.cell? ⟨p, 1, none⟩ = some (.bool bad) := H.cellOf 1 rfl
  have hle : l.isEmpty = ((l.length : Int) == 0) := by cases l with
    | nil => rfl
    | cons x r => symm; rw [List.length_cons, beq_eq_false_iff_ne.2 (by omega)]; rfl
  rw [hle]
  clear hle
  generalize l.length = n at *
  generalize b.length = nb at *
  generalize a.length = na at *
  generalize decide (b = a) = q at *
  clear h1 h2 h3 H hb ha
  cases bad with
  | true =>
    go_enter Try.func47, Try.ntmps47
    go_wp2_with fail
    go_ret
    exact ⟨rfl, rfl⟩
  | false =>
    cases hn : ((n : Int) == 0) with
    | false =>
      go_enter Try.func47, Try.ntmps47
      go_wp2_with fail
      go_ret
      exact ⟨rfl, rfl⟩
    | true =>
      cases he : (er == 0) with
      | false =>
        go_enter Try.func47, Try.ntmps47
        go_wp2_with fail
        go_ret
        exact ⟨rfl, rfl⟩
      | true =>
        cases q <;> (go_enter Try.func47, Try.ntmps47; go_wp2_with (refine T.out.mono ?_; rintro e w' ⟨rfl, rfl⟩); go_ret; exact ⟨rfl, rfl⟩)
end Go.Proofs.Ytjdkpogkhecijaa

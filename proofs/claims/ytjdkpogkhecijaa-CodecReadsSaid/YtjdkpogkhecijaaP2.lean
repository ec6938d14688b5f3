import Derived.Test.YtjdkpogkhecijaaPl
import Derived.Test.YtjdkpogkhecijaaProg
import Derived.Test.YtjdkpogkhecijaaLs
import Derived.Outline
import Derived.StillTailTactics
import Derived.Deep.DeepCutAuto
import Derived.Deep.CutBlock
import Derived.Deep.LoopGhost
import Derived.Deep.QuietTactic
import Derived.BigQuiet
import Derived.Deep.RegionHeld3
import Derived.Deep.RegionLaw
set_option linter.unusedVariables false
set_option linter.unusedSimpArgs false
namespace Go.Proofs.Ytjdkpogkhecijaa
open Go.RowKit
/-! ### int64, frames -/
def I64 (x : Int) : Prop := -9223372036854775808 ≤ x ∧ x ≤ 9223372036854775807
def U64 (x : Int) : Prop := 0 ≤ x ∧ x < 18446744073709551616
theorem p8 : (256 : Int) ^ 8 = 18446744073709551616 := rfl
theorem p1 : (256 : Int) ^ 1 = 256 := rfl
theorem u64_wrap (x : Int) (h : 0 ≤ x ∧ x < 256 ^ 8) : u64 (wrap64 x) = x := by
  rw [p8] at h
  unfold u64 wrap64
  omega
theorem wrap_u64 (x : Int) (h : I64 x) : wrap64 (u64 x) = x := by
  unfold I64 at h
  unfold u64 wrap64
  omega
theorem wrap_I64 (x : Int) : I64 (wrap64 x) := by unfold I64 wrap64; omega
theorem u64_lt (x : Int) : 0 ≤ u64 x ∧ u64 x < 18446744073709551616 := by unfold u64; omega
theorem Good.weak {α : Type} {rd rdR : Rst → α × Rst} {enc : α → List Int} {ok ok2 fine : α → Prop} (g : Good rd rdR enc ok fine) (h : ∀ x, ok x ↔ ok2 x) : Good rd rdR enc ok2 fine := by
  have : ok = ok2 := by funext x; exact propext (h x)
  subst this
  exact g
theorem good_lng : Good (lng 8) (lngR 8) (fun x => put 8 (u64 x)) I64 (fun _ => True) :=
  Good.weak ((good_num 8).map wrap64 u64 (fun x h => u64_wrap x h)) fun x => ⟨fun h => by rw [← h.2]; exact wrap_I64 _, fun h => ⟨by rw [p8]; exact u64_lt x, wrap_u64 x h⟩⟩
theorem Good.fineT {α β : Type} {rd rdR : Rst → α × Rst} {enc : α → List Int} {ok : α → Prop} (g : Good rd rdR enc ok (fun _ => True ∧ True)) : Good rd rdR enc ok (fun _ => True) := by
  have : (fun _ : α => True ∧ True) = fun _ => True := by funext x; simp
  rw [← this]
  exact g
theorem good_over : Good (rdOver (rnum 1)) (rdOver (rnumR 1)) (fun b : Bool => put 1 (if b = true then 1 else 0)) (fun _ => True) (fun _ => True) where
  stays s h := by unfold rdOver; rw [(good_num 1).stays s h]; rfl
  staysR s h := by unfold rdOver; rw [(good_num 1).staysR s h]; rfl
  agree s h h2 _ := by
    unfold rdOver at h2 ⊢
    rw [Bool.or_eq_false_iff] at h2
    rw [(good_num 1).agree s h h2.1 trivial]
  bads s h h2 := by
    rcases h2 with h2 | h2
    · unfold rdOver at h2 ⊢
      cases e : (rnum 1 s).2.2 with
      | true => rw [(good_num 1).bads s h (.inl e)]; rfl
      | false => rw [(good_num 1).agree s h e trivial]; exact h2
    · exact absurd trivial h2
  byt s h := (good_num 1).byt s h
  bytR s h := (good_num 1).bytR s h
  sound s hb h h2 := by
    unfold rdOver at h2 ⊢
    rw [Bool.or_eq_false_iff] at h2
    obtain ⟨a1, a2⟩ := (good_num 1).sound s hb h h2.1
    have h3 := h2.2
    rw [decide_eq_false_iff_not] at h3
    refine ⟨?_, trivial⟩
    rw [a1]
    congr 2
    by_cases e : (rnum 1 s).1 = 1
    · rw [e]; rfl
    · rw [beq_eq_false_iff_ne.2 e]
      simp
      omega
  full b t _ := by
    unfold rdOver
    rw [(good_num 1).full _ t (by rw [p1]; split <;> omega)]
    cases b <;> rfl
  encb _ _ := put_byt _ _
def FrWf (f : Fr) : Prop := (I64 f.2.1.1 ∧ I64 f.2.1.2.1 ∧ I64 f.2.1.2.2) ∧ I64 f.2.2.1 ∧ U64 f.2.2.2.1
theorem good_rec : Good (rdPair (lng 8) (rdPair (lng 8) (lng 8))) (rdPair (lngR 8) (rdPair (lngR 8) (lngR 8))) (fun x => put 8 (u64 x.1) ++ (put 8 (u64 x.2.1) ++ put 8 (u64 x.2.2))) (fun x => I64 x.1 ∧ I64 x.2.1 ∧ I64 x.2.2) (fun x => True ∧ True ∧ True) := good_lng.pair (good_lng.pair good_lng)
theorem good_no : Good (rdPair (rnum 8) (rdOver (rnum 1))) (rdPair (rnumR 8) (rdOver (rnumR 1))) (fun x => put 8 x.1 ++ put 1 (if x.2 = true then 1 else 0)) (fun x => (0 ≤ x.1 ∧ x.1 < 256 ^ 8) ∧ True) (fun x => True ∧ True) := (good_num 8).pair good_over
theorem rdF_ind {r1 ru r8 : Rst → Int × Rst} {s : Rst} {M : Fr × Rst → Prop}
    (h1 : (r1 s).1 = 1 → M ((1, (rdPair r8 (rdPair r8 r8) (r1 s).2).1, 0, 0, false), (rdPair r8 (rdPair r8 r8) (r1 s).2).2))
    (h2 : (r1 s).1 = 2 → M ((2, (0, 0, 0), (r8 (r1 s).2).1, 0, false), (r8 (r1 s).2).2))
    (h3 : (r1 s).1 = 3 → M ((3, (0, 0, 0), 0, (rdPair ru (rdOver r1) (r1 s).2).1.1, (rdPair ru (rdOver r1) (r1 s).2).1.2), (rdPair ru (rdOver r1) (r1 s).2).2))
    (h4 : (r1 s).1 ≠ 1 → (r1 s).1 ≠ 2 → (r1 s).1 ≠ 3 → M (((r1 s).1, (0, 0, 0), 0, 0, false), ((r1 s).2.1, true))) : M (rdF r1 ru r8 s) := by
  unfold rdF
  split
  · exact h1 ‹_›
  · split
    · exact h2 ‹_›
    · split
      · exact h3 ‹_›
      · exact h4 ‹_› ‹_› ‹_›
theorem rdF_1 {r1 ru r8 : Rst → Int × Rst} {s : Rst} (h : (r1 s).1 = 1) : rdF r1 ru r8 s = ((1, (rdPair r8 (rdPair r8 r8) (r1 s).2).1, 0, 0, false), (rdPair r8 (rdPair r8 r8) (r1 s).2).2) := by unfold rdF; rw [if_pos h]
theorem rdF_2 {r1 ru r8 : Rst → Int × Rst} {s : Rst} (h : (r1 s).1 = 2) : rdF r1 ru r8 s = ((2, (0, 0, 0), (r8 (r1 s).2).1, 0, false), (r8 (r1 s).2).2) := by unfold rdF; rw [if_neg (by omega), if_pos h]
theorem rdF_3 {r1 ru r8 : Rst → Int × Rst} {s : Rst} (h : (r1 s).1 = 3) : rdF r1 ru r8 s = ((3, (0, 0, 0), 0, (rdPair ru (rdOver r1) (r1 s).2).1.1, (rdPair ru (rdOver r1) (r1 s).2).1.2), (rdPair ru (rdOver r1) (r1 s).2).2) := by unfold rdF; rw [if_neg (by omega), if_neg (by omega), if_pos h]
theorem rdF_4 {r1 ru r8 : Rst → Int × Rst} {s : Rst} (h1 : (r1 s).1 ≠ 1) (h2 : (r1 s).1 ≠ 2) (h3 : (r1 s).1 ≠ 3) : rdF r1 ru r8 s = (((r1 s).1, (0, 0, 0), 0, 0, false), ((r1 s).2.1, true)) := by unfold rdF; rw [if_neg h1, if_neg h2, if_neg h3]
theorem frb_1 {f : Fr} (h : f.1 = 1) : frb f = put 1 1 ++ (put 8 (u64 f.2.1.1) ++ (put 8 (u64 f.2.1.2.1) ++ put 8 (u64 f.2.1.2.2))) := by unfold frb; rw [if_pos h, h]
theorem frb_2 {f : Fr} (h : f.1 = 2) : frb f = put 1 2 ++ put 8 (u64 f.2.2.1) := by unfold frb; rw [if_neg (by omega), if_pos h, h]
theorem frb_3 {f : Fr} (h : f.1 = 3) : frb f = put 1 3 ++ (put 8 f.2.2.2.1 ++ put 1 (if f.2.2.2.2 = true then 1 else 0)) := by unfold frb; rw [if_neg (by omega), if_neg (by omega), h]
theorem rdF_stays {r1 ru r8 : Rst → Int × Rst} (hp : ∀ s, s.2 = true → (rdPair r8 (rdPair r8 r8) s).2.2 = true) (h8 : ∀ s, s.2 = true → (r8 s).2.2 = true) (hn : ∀ s, s.2 = true → (rdPair ru (rdOver r1) s).2.2 = true) {s : Rst} (e : (r1 s).2.2 = true) : (rdF r1 ru r8 s).2.2 = true :=
  rdF_ind (M := fun x => x.2.2 = true) (fun _ => hp _ e) (fun _ => h8 _ e) (fun _ => hn _ e) (fun _ _ _ => rfl)
theorem rdF_byt {r1 ru r8 : Rst → Int × Rst} (hp : ∀ s, Byt s.1 → Byt (rdPair r8 (rdPair r8 r8) s).2.1) (h8 : ∀ s, Byt s.1 → Byt (r8 s).2.1) (hn : ∀ s, Byt s.1 → Byt (rdPair ru (rdOver r1) s).2.1) {s : Rst} (b : Byt (r1 s).2.1) : Byt (rdF r1 ru r8 s).2.1 :=
  rdF_ind (M := fun x => Byt x.2.1) (fun _ => hp _ b) (fun _ => h8 _ b) (fun _ => hn _ b) (fun _ _ _ => b)
theorem fr_stays {s : Rst} (e : (rnum 1 s).2.2 = true) : (rdFr s).2.2 = true := rdF_stays good_rec.stays good_lng.stays good_no.stays e
theorem frR_stays {s : Rst} (e : (rnumR 1 s).2.2 = true) : (rdFrR s).2.2 = true := rdF_stays good_rec.staysR good_lng.staysR good_no.staysR e
theorem fr_1 {s : Rst} (h : (rnum 1 s).1 = 1) : rdFr s = ((1, (rdPair (lng 8) (rdPair (lng 8) (lng 8)) (rnum 1 s).2).1, 0, 0, false), (rdPair (lng 8) (rdPair (lng 8) (lng 8)) (rnum 1 s).2).2) := rdF_1 h
theorem fr_2 {s : Rst} (h : (rnum 1 s).1 = 2) : rdFr s = ((2, (0, 0, 0), (lng 8 (rnum 1 s).2).1, 0, false), (lng 8 (rnum 1 s).2).2) := rdF_2 h
theorem fr_3 {s : Rst} (h : (rnum 1 s).1 = 3) : rdFr s = ((3, (0, 0, 0), 0, (rdPair (rnum 8) (rdOver (rnum 1)) (rnum 1 s).2).1.1, (rdPair (rnum 8) (rdOver (rnum 1)) (rnum 1 s).2).1.2), (rdPair (rnum 8) (rdOver (rnum 1)) (rnum 1 s).2).2) := rdF_3 h
theorem fr_4 {s : Rst} (h1 : (rnum 1 s).1 ≠ 1) (h2 : (rnum 1 s).1 ≠ 2) (h3 : (rnum 1 s).1 ≠ 3) : rdFr s = (((rnum 1 s).1, (0, 0, 0), 0, 0, false), ((rnum 1 s).2.1, true)) := rdF_4 h1 h2 h3
theorem frR_1 {s : Rst} (h : (rnumR 1 s).1 = 1) : rdFrR s = ((1, (rdPair (lngR 8) (rdPair (lngR 8) (lngR 8)) (rnumR 1 s).2).1, 0, 0, false), (rdPair (lngR 8) (rdPair (lngR 8) (lngR 8)) (rnumR 1 s).2).2) := rdF_1 h
theorem frR_2 {s : Rst} (h : (rnumR 1 s).1 = 2) : rdFrR s = ((2, (0, 0, 0), (lngR 8 (rnumR 1 s).2).1, 0, false), (lngR 8 (rnumR 1 s).2).2) := rdF_2 h
theorem frR_3 {s : Rst} (h : (rnumR 1 s).1 = 3) : rdFrR s = ((3, (0, 0, 0), 0, (rdPair (rnumR 8) (rdOver (rnumR 1)) (rnumR 1 s).2).1.1, (rdPair (rnumR 8) (rdOver (rnumR 1)) (rnumR 1 s).2).1.2), (rdPair (rnumR 8) (rdOver (rnumR 1)) (rnumR 1 s).2).2) := rdF_3 h
theorem frR_4 {s : Rst} (h1 : (rnumR 1 s).1 ≠ 1) (h2 : (rnumR 1 s).1 ≠ 2) (h3 : (rnumR 1 s).1 ≠ 3) : rdFrR s = (((rnumR 1 s).1, (0, 0, 0), 0, 0, false), ((rnumR 1 s).2.1, true)) := rdF_4 h1 h2 h3
theorem good_frame : Good rdFr rdFrR frb (fun f => Right f ∧ FrWf f) (fun _ => True) where
  stays s h := fr_stays ((good_num 1).stays s h)
  staysR s h := frR_stays ((good_num 1).staysR s h)
  agree s h h2 _ := by
    have e : (rnum 1 s).2.2 = false := by
      cases e : (rnum 1 s).2.2 with
      | false => rfl
      | true =>
        have := fr_stays e
        rw [this] at h2; cases h2
    have a := (good_num 1).agree s h e trivial
    by_cases k1 : (rnum 1 s).1 = 1
    · rw [fr_1 k1] at h2 ⊢
      rw [frR_1 (by rw [a]; exact k1), a, good_rec.agree _ e h2 ⟨trivial, trivial, trivial⟩]
    · by_cases k2 : (rnum 1 s).1 = 2
      · rw [fr_2 k2] at h2 ⊢
        rw [frR_2 (by rw [a]; exact k2), a, good_lng.agree _ e h2 trivial]
      · by_cases k3 : (rnum 1 s).1 = 3
        · rw [fr_3 k3] at h2 ⊢
          rw [frR_3 (by rw [a]; exact k3), a, good_no.agree _ e h2 ⟨trivial, trivial⟩]
        · rw [fr_4 k1 k2 k3] at h2; cases h2
  bads s h h2 := by
    have h2 : (rdFr s).2.2 = true := h2.elim id fun h => absurd trivial h
    cases e : (rnum 1 s).2.2 with
    | true =>
      have a := (good_num 1).bads s h (.inl e)
      exact frR_stays a
    | false =>
      have a := (good_num 1).agree s h e trivial
      by_cases k1 : (rnum 1 s).1 = 1
      · rw [fr_1 k1] at h2
        rw [frR_1 (by rw [a]; exact k1), a]
        exact good_rec.bads _ e (.inl h2)
      · by_cases k2 : (rnum 1 s).1 = 2
        · rw [fr_2 k2] at h2
          rw [frR_2 (by rw [a]; exact k2), a]
          exact good_lng.bads _ e (.inl h2)
        · by_cases k3 : (rnum 1 s).1 = 3
          · rw [fr_3 k3] at h2
            rw [frR_3 (by rw [a]; exact k3), a]
            exact good_no.bads _ e (.inl h2)
          · rw [frR_4 (by rw [a]; exact k1) (by rw [a]; exact k2) (by rw [a]; exact k3)]
  byt s h := by
    exact rdF_byt good_rec.byt good_lng.byt good_no.byt ((good_num 1).byt s h)
  bytR s h := by
    exact rdF_byt good_rec.bytR good_lng.bytR good_no.bytR ((good_num 1).bytR s h)
  sound s hb h h2 := by
    have b := (good_num 1).byt s hb
    have e : (rnum 1 s).2.2 = false := by
      cases e : (rnum 1 s).2.2 with
      | false => rfl
      | true =>
        have := fr_stays e
        rw [this] at h2; cases h2
    obtain ⟨a1, a2⟩ := (good_num 1).sound s hb h e
    have z : I64 0 := by unfold I64; omega
    by_cases k1 : (rnum 1 s).1 = 1
    · rw [fr_1 k1] at h2 ⊢
      obtain ⟨c1, c2⟩ := good_rec.sound _ b e h2
      rw [k1] at a1
      refine ⟨?_, .inl ⟨rfl, rfl⟩, c2, z, by show (0 : Int) ≤ 0 ∧ (0 : Int) < _; omega⟩
      rw [frb_1 rfl, List.append_assoc, ← c1]
      exact a1
    · by_cases k2 : (rnum 1 s).1 = 2
      · rw [fr_2 k2] at h2 ⊢
        obtain ⟨c1, c2⟩ := good_lng.sound _ b e h2
        rw [k2] at a1
        refine ⟨?_, .inr (.inl ⟨rfl, rfl, rfl⟩), ⟨z, z, z⟩, c2, by show (0 : Int) ≤ 0 ∧ (0 : Int) < _; omega⟩
        rw [frb_2 rfl, List.append_assoc, ← c1]
        exact a1
      · by_cases k3 : (rnum 1 s).1 = 3
        · rw [fr_3 k3] at h2 ⊢
          obtain ⟨c1, c2⟩ := good_no.sound _ b e h2
          rw [k3] at a1
          refine ⟨?_, .inr (.inr ⟨rfl, rfl, rfl⟩), ⟨z, z, z⟩, z, c2.1⟩
          rw [frb_3 rfl, List.append_assoc, ← c1]
          exact a1
        · rw [fr_4 k1 k2 k3] at h2; cases h2
  full f t h := by
    obtain ⟨k, ⟨r1, r2, r3⟩, m, n, o⟩ := f
    obtain ⟨hr, ⟨w1, w2, w3⟩, w4, w5⟩ := h
    rcases hr with ⟨rfl, h2⟩ | ⟨rfl, h2, h3⟩ | ⟨rfl, h2, h3⟩
    · have e := fun t => (good_num 1).full 1 t (by rw [p1]; omega)
      rw [frb_1 rfl, List.append_assoc, fr_1 (by rw [e]), e, good_rec.full (r1, r2, r3) t ⟨w1, w2, w3⟩]
      cases h2
      rfl
    · have e := fun t => (good_num 1).full 2 t (by rw [p1]; omega)
      rw [frb_2 rfl, List.append_assoc, fr_2 (by rw [e]), e, good_lng.full m t w4]
      cases h2; cases h3
      rfl
    · have e := fun t => (good_num 1).full 3 t (by rw [p1]; omega)
      rw [frb_3 rfl, List.append_assoc, fr_3 (by rw [e]), e, good_no.full (n, o) t ⟨w5, trivial⟩]
      cases h2; cases h3
      rfl
  encb f _ := by
    unfold frb
    refine Byt.append (put_byt _ _) ?_
    split
    · exact Byt.append (put_byt _ _) (Byt.append (put_byt _ _) (put_byt _ _))
    · split
      · exact put_byt _ _
      · exact Byt.append (put_byt _ _) (put_byt _ _)
end Go.Proofs.Ytjdkpogkhecijaa

import Derived.Test.YtjdkpogkhecijaaUe
import Derived.Test.YtjdkpogkhecijaaOf
import Derived.Test.YtjdkpogkhecijaaUb
import Derived.IntWalk
import Derived.Test.YtjdkpogkhecijaaProg
import Derived.Test.YtjdkpogkhecijaaLs
import Derived.Outline
import Derived.StillTailTactics
import Derived.Deep.DeepCutAuto
import Derived.Deep.CutBlock
import Derived.Deep.LoopGhost
import Derived.Deep.QuietTactic
import Derived.BigQuiet
import Derived.Deep.RegionHeld3
import Derived.Deep.RegionLaw
set_option linter.unusedVariables false
set_option linter.unusedSimpArgs false
namespace Go.Proofs.Ytjdkpogkhecijaa
open Go.RowKit
/-! ### OpenSnap: how a part is read -/
theorem Good.encw {α : Type} {rd rdR : Rst → α × Rst} {enc enc2 : α → List Int} {ok fine : α → Prop} (g : Good rd rdR enc ok fine) (h : ∀ x, enc x = enc2 x) : Good rd rdR enc2 ok fine := by
  have : enc = enc2 := funext h
  subst this
  exact g
theorem Good.finew {α : Type} {rd rdR : Rst → α × Rst} {enc : α → List Int} {ok fine : α → Prop} (g : Good rd rdR enc ok fine) (h : ∀ x, fine x) : Good rd rdR enc ok (fun _ => True) := by
  have : fine = fun _ => True := by funext x; exact propext ⟨fun _ => trivial, fun _ => h x⟩
  subst this
  exact g
def rdPn : Rst → Pn4 × Rst := rdPair (lng 8) (rdPair (rdPair (lng 8) (lng 8)) (lng 8))
def rdPnR : Rst → Pn4 × Rst := rdPair (lngR 8) (rdPair (rdPair (lngR 8) (lngR 8)) (lngR 8))
def PnOk (p : Pn4) : Prop := I64 p.1 ∧ (I64 p.2.1.1 ∧ I64 p.2.1.2) ∧ I64 p.2.2
theorem good_pn : Good rdPn rdPnR paneB PnOk (fun _ => True) := by
  refine Good.finew (Good.encw (good_lng.pair ((good_lng.pair good_lng).pair good_lng)) (fun x => ?_)) (fun x => ⟨trivial, ⟨trivial, trivial⟩, trivial⟩)
  unfold paneB
  simp only [List.append_assoc]
def rdOt : Rst → Ot × Rst := rdPair (rnum 2) rdFr
def rdOtR : Rst → Ot × Rst := rdPair (rnumR 2) rdFrR
def OtOk (o : Ot) : Prop := (0 ≤ o.1 ∧ o.1 < 256 ^ 2) ∧ Right o.2 ∧ FrWf o.2
theorem good_ot : Good rdOt rdOtR outB OtOk (fun _ => True) := Good.finew ((good_num 2).pair good_frame) (fun _ => ⟨trivial, trivial⟩)
theorem good_mk : Good (lng 8) (lngR 8) markB I64 (fun _ => True) := good_lng
def rdSn : Rst → Sn × Rst := rdPair (rnum 2) (rdPair (rnum 2) (rdPair (lng 8) (rdPair (rdList (lng 8)) (rdPair (rdList rdPn) (rdList rdOt)))))
def rdSnR : Rst → Sn × Rst := rdPair (rnumR 2) (rdPair (rnumR 2) (rdPair (lngR 8) (rdPair (rdListR (lngR 8)) (rdPair (rdListR rdPnR) (rdListR rdOtR)))))
def SnOk (s : Sn) : Prop := (0 ≤ s.1 ∧ s.1 < 256 ^ 2) ∧ (0 ≤ s.2.1 ∧ s.2.1 < 256 ^ 2) ∧ I64 s.2.2.1 ∧ (s.2.2.2.1.length < 65536 ∧ ∀ x ∈ s.2.2.2.1, I64 x) ∧ (s.2.2.2.2.1.length < 65536 ∧ ∀ x ∈ s.2.2.2.2.1, PnOk x) ∧ (s.2.2.2.2.2.length < 65536 ∧ ∀ x ∈ s.2.2.2.2.2, OtOk x)
theorem good_sn : Good rdSn rdSnR snB SnOk (fun _ => True) :=
  Good.finew ((good_num 2).pair ((good_num 2).pair (good_lng.pair (good_mk.list.pair (good_pn.list.pair good_ot.list))))) (fun x => ⟨trivial, trivial, trivial, fun _ _ => trivial, fun _ _ => trivial, fun _ _ => trivial⟩)
def zeroS : Sn := (0, 0, 0, [], [], [])
def opN (b : List Int) : Sn × Int := if (rdSn (b, false)).2 = ([], false) ∧ snBig (rdSn (b, false)).1 = false then ((rdSn (b, false)).1, 0) else (zeroS, 10)
theorem snBad_no {s : Sn} (h : SnOk s) : snBad s = false := by
  obtain ⟨h1, h2, _, _, _, _, h6⟩ := h
  rw [show (256 : Int) ^ 2 = 65536 from rfl] at h1 h2
  unfold snBad
  rw [decide_eq_false (show ¬ s.1 < 0 by omega), decide_eq_false (show ¬ 65535 < s.1 by omega), decide_eq_false (show ¬ s.2.1 < 0 by omega), decide_eq_false (show ¬ 65535 < s.2.1 by omega)]
  simp only [Bool.false_or]
  rw [List.any_eq_false]
  intro x hx
  obtain ⟨a1, a2, _⟩ := h6 x hx
  rw [show (256 : Int) ^ 2 = 65536 from rfl] at a1
  unfold badO
  rw [decide_eq_false (show ¬ x.1 < 0 by omega), decide_eq_false (show ¬ 65535 < x.1 by omega), decide_eq_true a2]
  simp
theorem opN_yes {b : List Int} (hb : Byt b) {s : Sn} {l : List Int} {bad : Bool} (h : rdSn (b, false) = (s, (l, bad))) : opN b = if (!bad && (l.isEmpty && (snErr s == 0 && decide (b = snOut s)))) = true then (s, 0) else (zeroS, 10) := by
  unfold opN
  rw [h]
  dsimp only
  by_cases hc : (l, bad) = (([], false) : Rst) ∧ snBig s = false
  · rw [if_pos hc]
    obtain ⟨hc, a2⟩ := hc
    injection hc with h1 h2
    subst h1
    subst h2
    obtain ⟨a1, a3⟩ := good_sn.sound (b, false) hb rfl (by rw [h])
    rw [h] at a1 a3
    dsimp only at a1 a3
    rw [List.append_nil] at a1
    have hbd := snBad_no a3
    have e1 : snErr s = 0 := by unfold snErr; rw [a2, hbd]; rfl
    have e2 : snOut s = snB s := by unfold snOut; rw [a2, hbd]; rfl
    rw [if_pos (by rw [e1, e2, ← a1]; simp)]
  · rw [if_neg hc, if_neg]
    intro h3
    simp only [Bool.and_eq_true, Bool.not_eq_true', List.isEmpty_iff, beq_iff_eq] at h3
    refine hc ⟨by rw [h3.1, h3.2.1], ?_⟩
    have h4 := h3.2.2.1
    unfold snErr at h4
    cases h5 : snBig s with
    | false => rfl
    | true => rw [h5, if_pos rfl] at h4; cases h4
theorem opN_full {s : Sn} (h : SnOk s) (hg : snBig s = false) : opN (snB s) = (s, 0) := by
  have e := good_sn.full s [] h
  rw [List.append_nil] at e
  unfold opN
  rw [e]
  exact if_pos ⟨rfl, hg⟩
theorem thgR_len {α : Type} (rd : Rst → α × Rst) : ∀ (n : Nat) (s : Rst) (out : List α), (thgR rd n s out).2.2 = false → (thgR rd n s out).1.length = out.length + n := by
  intro n
  induction n with
  | zero => intro s out _; rfl
  | succ n ih =>
    intro s out h
    cases hs : s.2 with
    | true => rw [thgR_stays rd _ _ _ hs] at h; rw [h] at hs; cases hs
    | false =>
      have e : thgR rd (n + 1) s out = thgR rd n (rd s).2 (out ++ [(rd s).1]) := by
        show (if s.2 = true then (out, s) else thgR rd n (rd s).2 (out ++ [(rd s).1])) = _
        rw [if_neg (by rw [hs]; simp)]
      rw [e] at h ⊢
      rw [ih _ _ h, List.length_append]
      show out.length + 1 + n = out.length + (n + 1)
      omega
theorem opN_ref {b : List Int} (hb : Byt b) {s : Sn} {l : List Int} {bad : Bool} (h : rdSnR (b, false) = (s, (l, bad))) (hm : s.2.2.2.1.length ≤ 65535) : opN b = if (bad || (!l.isEmpty || (decide (4096 < s.2.2.2.2.1.length) || decide (4096 < s.2.2.2.2.2.length)))) = true then (zeroS, 10) else (s, 0) := by
  unfold opN
  cases h1 : (rdSn (b, false)).2.2 with
  | true =>
    have := good_sn.bads (b, false) rfl (.inl h1)
    rw [h] at this
    dsimp only at this
    subst this
    rw [if_neg (by intro h4; rw [h4.1] at h1; cases h1)]
    rfl
  | false =>
    have h3 := good_sn.agree (b, false) rfl h1 trivial
    rw [h] at h3
    rw [← h3] at h1 ⊢
    dsimp only at h1 ⊢
    subst h1
    have hg : snBig s = (decide (4096 < s.2.2.2.2.1.length) || decide (4096 < s.2.2.2.2.2.length)) := by
      unfold snBig
      rw [decide_eq_false (show ¬ 65535 < s.2.2.2.1.length by omega), Bool.or_false]
    rw [← hg]
    by_cases hl : l = []
    · subst hl
      cases snBig s with
      | false => rfl
      | true => rfl
    · rw [if_neg (by intro h4; injection h4.1 with h5 _; exact hl h5), if_pos (by cases l with | nil => exact absurd rfl hl | cons x r => rfl)]
theorem snB_byt (s : Sn) : Byt (snB s) := by
  unfold snB
  have hf : ∀ {α : Type} (f : α → List Int) (l : List α), (∀ x, Byt (f x)) → Byt (l.flatMap f) := fun f l h x hx => by
    obtain ⟨y, _, hx⟩ := List.mem_flatMap.1 hx
    exact h y x hx
  exact Byt.append (put_byt _ _) (Byt.append (put_byt _ _) (Byt.append (put_byt _ _) (Byt.append (Byt.append (put_byt _ _) (hf _ _ markB_byt)) (Byt.append (Byt.append (put_byt _ _) (hf _ _ paneB_byt)) (Byt.append (put_byt _ _) (hf _ _ fun x => Byt.append (put_byt _ _) (frb_byt _)))))))
theorem snOut_byt (s : Sn) : Byt (snOut s) := by
  unfold snOut
  split
  · exact Byt.nil
  · split
    · exact Byt.nil
    · exact snB_byt s
end Go.Proofs.Ytjdkpogkhecijaa

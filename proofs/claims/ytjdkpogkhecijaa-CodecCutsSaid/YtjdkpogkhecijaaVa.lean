import Derived.Test.YtjdkpogkhecijaaUi
import Derived.Test.YtjdkpogkhecijaaTb
import Derived.Test.YtjdkpogkhecijaaUb
import Derived.Test.YtjdkpogkhecijaaKn
import Derived.Test.YtjdkpogkhecijaaUa
import Derived.IntWalk
import Derived.Test.YtjdkpogkhecijaaProg
import Derived.Test.YtjdkpogkhecijaaLs
import Derived.Outline
import Derived.StillTailTactics
import Derived.Deep.DeepCutAuto
import Derived.Deep.CutBlock
import Derived.Deep.LoopGhost
import Derived.Deep.QuietTactic
import Derived.BigQuiet
import Derived.Deep.RegionHeld3
import Derived.Deep.RegionLaw
set_option linter.unusedVariables false
set_option linter.unusedSimpArgs false
namespace Go.Proofs.Ytjdkpogkhecijaa
open Go.RowKit
theorem cut_no {α : Type} {rd rdR : Rst → α × Rst} {enc : α → List Int} {ok fine : α → Prop} (g : Good rd rdR enc ok fine) {x : α} (h : ok x) {k : Nat} (hk : k < (enc x).length) : (rd ((enc x).take k, false)).2 ≠ ([], false) := fun e => by
  obtain ⟨a1, a2⟩ := g.sound ((enc x).take k, false) ((g.encb x h).take k) rfl (by rw [e])
  have h1 := g.full _ ((enc x).drop k) a2
  have h2 := g.full x [] h
  rw [e] at a1
  dsimp only at a1
  rw [List.append_nil] at a1
  rw [← a1, List.take_append_drop] at h1
  rw [List.append_nil, h1] at h2
  injection h2 with _ h3
  injection h3 with h4 _
  have h5 : ((enc x).drop k).length = 0 := by rw [h4]; rfl
  rw [List.length_drop] at h5
  omega
theorem more_no {α : Type} {rd rdR : Rst → α × Rst} {enc : α → List Int} {ok fine : α → Prop} (g : Good rd rdR enc ok fine) {x : α} (h : ok x) (y : Int) : (rd (enc x ++ [y], false)).2 ≠ ([], false) := fun e => by
  rw [g.full x [y] h] at e
  injection e with e1 _
  cases e1
theorem opN_cut {s : Sn} (h : SnOk s) {k : Nat} (hk : k < (snB s).length) : opN ((snB s).take k) = (zeroS, 10) := if_neg fun h1 => cut_no good_sn h hk h1.1
theorem opN_more {s : Sn} (h : SnOk s) : opN (snB s ++ [0]) = (zeroS, 10) := if_neg fun h1 => more_no good_sn h 0 h1.1
def mnB (m : Mn) : List Int := put 8 m.1 ++ (put 8 m.2.1 ++ (put 2 (m.2.2.length : Int) ++ m.2.2.flatMap fileB))
def MnOk (x : Mn) : Prop := (0 ≤ x.1 ∧ x.1 < 256 ^ 8) ∧ (0 ≤ x.2.1 ∧ x.2.1 < 256 ^ 8) ∧ x.2.2.length < 65536 ∧ ∀ s ∈ x.2.2, s.size < 256
theorem opM_cut {m : Mn} (h : MnOk m) {k : Nat} (hk : k < (mnB m).length) : opM ((mnB m).take k) = (zeroM, 10) := if_neg fun h1 => cut_no good_mn h hk h1.1
theorem opM_more {m : Mn} (h : MnOk m) : opM (mnB m ++ [0]) = (zeroM, 10) := if_neg fun h1 => more_no good_mn h 0 h1.1
theorem flat_le {α : Type} {f : α → List Int} {l : List α} {k : Nat} (h : ∀ x ∈ l, (f x).length ≤ k) : (l.flatMap f).length ≤ k * l.length := by
  induction l with
  | nil => exact Nat.zero_le _
  | cons x r ih =>
    have h1 := ih fun y hy => h y (List.mem_cons_of_mem _ hy)
    have h2 := h x (by simp)
    rw [List.flatMap_cons, List.length_append, List.length_cons, Nat.mul_add, Nat.mul_one]
    omega
theorem snB_len {s : Sn} (h : snBig s = false) : 12 ≤ (snB s).length ∧ (snB s).length ≤ 900000 := by
  unfold snBig at h
  simp only [Bool.or_eq_false_iff, decide_eq_false_iff_not] at h
  obtain ⟨h1, h2, h3⟩ := h
  have a1 := flat_le (f := markB) (l := s.2.2.2.1) (k := 8) fun x _ => Nat.le_of_eq (markB_len x)
  have a2 := flat_le (f := paneB) (l := s.2.2.2.2.1) (k := 32) fun x _ => Nat.le_of_eq (paneB_len x)
  have a3 := flat_le (f := outB) (l := s.2.2.2.2.2) (k := 27) fun x _ => outB_len x
  unfold snB
  simp only [List.length_append, put_len]
  omega
theorem man_ok {mn me : Int} (h1 : U64 mn) (h2 : U64 me) {l : List ByteArray} (h : merr l = 0) : MnOk (mn, me, l) ∧ mout mn me l = mnB (mn, me, l) ∧ 18 ≤ (mnB (mn, me, l)).length ∧ (l.length ≤ 100 → (mnB (mn, me, l)).length ≤ 5000) := by
  have hb : mbad l = false := by
    unfold merr at h
    cases e : mbad l with
    | false => rfl
    | true => rw [e, if_pos rfl] at h; cases h
  obtain ⟨b1, b2⟩ := mbad_no.1 hb
  have p8 : (256 : Int) ^ 8 = 18446744073709551616 := rfl
  obtain ⟨u1, u2⟩ := h1
  obtain ⟨u3, u4⟩ := h2
  refine ⟨⟨⟨u1, by rw [p8]; exact u2⟩, ⟨u3, by rw [p8]; exact u4⟩, by show l.length < 65536; omega, fun s hs => by have := b2 s hs; omega⟩, if_neg (by rw [hb]; simp), ?_, fun hl => ?_⟩
  · unfold mnB
    simp only [List.length_append, put_len]
    omega
  · have a1 := flat_le (f := fileB) (l := l) (k := 33) fun x hx => by
      have := b2 x hx
      unfold fileB
      rw [List.length_append, put_len, bytesOf_len]
      omega
    unfold mnB
    simp only [List.length_append, put_len]
    omega
theorem merr_or (l : List ByteArray) : merr l = 0 ∨ (merr l ≠ 0 ∧ 0 < merr l) := by
  unfold merr
  split
  · right; omega
  · left; rfl
end Go.Proofs.Ytjdkpogkhecijaa

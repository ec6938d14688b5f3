import Derived.Test.YtoiokmfdmpifiaaCh
import Derived.IntWalk
import Derived.Test.YtoiokmfdmpifiaaProg
import Derived.Test.YtoiokmfdmpifiaaLs
import Derived.Outline
import Derived.StillTailTactics
import Derived.Deep.DeepCutAuto
import Derived.Deep.CutBlock
import Derived.Deep.LoopGhost
import Derived.Deep.QuietTactic
import Derived.BigQuiet
import Derived.Deep.RegionHeld3
import Derived.Deep.RegionLaw
set_option linter.unusedVariables false
set_option linter.unusedSimpArgs false
namespace Go.Proofs.Ytoiokmfdmpifiaa
open Go.RowKit
/-- Frames that are under way, their numbers in a row. -/
def frames {α : Type} (ep : Int) : Int → List α → List (Int × Int × α)
  | _, [] => []
  | q, x :: xs => (ep, q, x) :: frames ep (q + 1) xs
theorem frames_append {α : Type} (ep : Int) (ys : List α) : ∀ (xs : List α) (q : Int), frames ep q (xs ++ ys) = frames ep q xs ++ frames ep (q + xs.length) ys
  | [], q => by simp [frames]
  | x :: xs, q => by
    simp only [List.cons_append, frames, frames_append ep ys xs (q + 1), List.length_cons]
    congr 3
    omega
theorem frames_length {α : Type} (ep : Int) : ∀ (xs : List α) (q : Int), (frames ep q xs).length = xs.length
  | [], q => rfl
  | x :: xs, q => by simp [frames, frames_length ep xs (q + 1)]
theorem frames_snd {α : Type} (ep : Int) : ∀ (xs : List α) (q : Int), (frames ep q xs).map (·.2.2) = xs
  | [], q => rfl
  | x :: xs, q => by simp [frames, frames_snd ep xs (q + 1)]
/-- A channel in which nothing was forged: what it holds is xs. -/
structure Fl {α : Type} (s : Ch α) (cr ep : Int) (B : Nat) (xs : List α) : Prop where
  hcr : s.cr = cr
  hep : s.ep = ep
  low : 1 ≤ s.inn
  hB : s.out ≤ B
  hgr : s.gr ≤ cr
  hold : ∃ mv, s.mov = frames ep s.inn mv ∧ s.out = s.inn + mv.length ∧ (mv.length : Int) + s.wait.length ≤ cr ∧ s.wait ++ mv ++ s.back = xs
section
variable {α : Type} {s : Ch α} {cr ep : Int} {B : Nat} {xs : List α}
theorem Fl.new (n ep : Int) : Fl (Ch.fresh n ep : Ch α) (min (max n 1) 64) ep 1 [] where
  hcr := rfl
  hep := rfl
  low := by show (1 : Int) ≤ 1; omega
  hB := by show (1 : Int) ≤ _; omega
  hgr := by show (0 : Int) ≤ _; omega
  hold := ⟨[], rfl, rfl, by show (0 : Int) + 0 ≤ _; omega, rfl⟩
theorem Fl.more (F : Fl s cr ep B xs) {C : Nat} (h : B ≤ C) : Fl s cr ep C xs := ⟨F.hcr, F.hep, F.low, by have := F.hB; omega, F.hgr, F.hold⟩
theorem Fl.sizes (F : Fl s cr ep B xs) : s.mov.length + s.wait.length + s.back.length = xs.length ∧ (s.mov.length : Int) + s.wait.length ≤ cr := by
  obtain ⟨mv, h1, h2, h3, h4⟩ := F.hold
  rw [h1, frames_length]
  refine ⟨?_, h3⟩
  rw [← h4]
  simp
  omega
theorem Fl.ok (F : Fl s cr ep B xs) (h1 : 1 ≤ cr) (h2 : cr ≤ 64) (hx : xs.length ≤ 100000) : s.Ok := by
  obtain ⟨ha, hb⟩ := F.sizes
  exact ⟨by rw [F.hcr]; exact h1, by rw [F.hcr]; exact h2, by omega, by omega, by omega⟩
theorem Fl.offer (F : Fl s cr ep B xs) (x : α) : Fl (s.offer x) cr ep B (xs ++ [x]) := by
  obtain ⟨mv, h1, h2, h3, h4⟩ := F.hold
  refine ⟨F.hcr, F.hep, F.low, F.hB, F.hgr, mv, h1, h2, h3, ?_⟩
  show s.wait ++ mv ++ (s.back ++ [x]) = _
  rw [← List.append_assoc, h4]
theorem Fl.send (F : Fl s cr ep B xs) (hb : B < 1000000) : Fl s.send cr ep (B + 1) xs := by
  obtain ⟨mv, h1, h2, h3, h4⟩ := F.hold
  unfold Ch.send
  cases hl : s.back with
  | nil => exact F.more (by omega)
  | cons x r =>
    simp only
    have hB := F.hB
    have hlow := F.low
    split
    · rename_i hc
      have hc' : 0 < cr - mv.length - s.wait.length := by
        have : s.cred = cr - mv.length - s.wait.length := by unfold Ch.cred; rw [F.hcr, h1, frames_length]
        omega
      have hw : IntKind.u64.wrap (s.out + 1) = s.out + 1 := IntWalk.u64_in _ (by omega)
      refine ⟨F.hcr, F.hep, F.low, ?_, F.hgr, mv ++ [x], ?_, ?_, ?_, ?_⟩
      · show IntKind.u64.wrap (s.out + 1) ≤ _
        rw [hw]; omega
      · show s.mov ++ [(s.ep, s.out, x)] = frames ep s.inn (mv ++ [x])
        rw [frames_append, h1, F.hep, h2]
        rfl
      · show IntKind.u64.wrap (s.out + 1) = _
        rw [hw, h2]; simp; omega
      · simp; omega
      · show s.wait ++ (mv ++ [x]) ++ r = xs
        rw [← h4, hl]; simp
    · exact F.more (by omega)
theorem Fl.deliver_nil (F : Fl s cr ep B xs) (h : s.mov = []) : s.dlv = 52 ∧ s.deliver = s := by
  unfold Ch.dlv Ch.deliver
  rw [h]
  exact ⟨rfl, rfl⟩
theorem Fl.deliver_cons (F : Fl s cr ep B xs) (h : s.mov ≠ []) (hb : B < 1000000) : ∃ x, s.dlv = 0 ∧ s.deliver.wait = s.wait ++ [x] ∧ Fl s.deliver cr ep B xs := by
  obtain ⟨mv, h1, h2, h3, h4⟩ := F.hold
  have hlow := F.low
  have hB := F.hB
  cases mv with
  | nil => exact absurd h1 h
  | cons x mv =>
    simp only [frames] at h1
    simp only [List.length_cons] at h2 h3
    have hw : IntKind.u64.wrap (s.inn + 1) = s.inn + 1 := IntWalk.u64_in _ (by omega)
    have ha : Ch.arr { s with mov := frames ep (s.inn + 1) mv } ep s.inn = 0 := by
      unfold Ch.arr
      rw [if_neg (by simp [F.hep]), if_neg]
      simp [F.hcr]
      omega
    have hd : s.deliver = { s with mov := frames ep (s.inn + 1) mv, inn := IntKind.u64.wrap (s.inn + 1), wait := s.wait ++ [x], gr := max s.gr (s.wait.length + 1) } := by
      unfold Ch.deliver Ch.arrive
      rw [h1]
      simp only
      rw [if_pos ha]
    refine ⟨x, ?_, by rw [hd], ?_⟩
    · unfold Ch.dlv
      rw [h1]
      exact ha
    · rw [hd]
      have hgr := F.hgr
      refine ⟨F.hcr, F.hep, ?_, F.hB, ?_, mv, ?_, ?_, ?_, ?_⟩
      · show 1 ≤ IntKind.u64.wrap (s.inn + 1)
        rw [hw]; omega
      · show max s.gr (s.wait.length + 1) ≤ cr
        omega
      · show _ = frames ep (IntKind.u64.wrap (s.inn + 1)) mv
        rw [hw]
      · show s.out = IntKind.u64.wrap (s.inn + 1) + _
        rw [hw]; omega
      · simp; omega
      · show s.wait ++ [x] ++ mv ++ s.back = xs
        rw [← h4]; simp
theorem Fl.deliver (F : Fl s cr ep B xs) (hb : B < 1000000) : (s.dlv = 0 ∨ s.dlv = 52) ∧ Fl s.deliver cr ep B xs := by
  by_cases h : s.mov = []
  · obtain ⟨h1, h2⟩ := F.deliver_nil h
    exact ⟨.inr h1, by rw [h2]; exact F⟩
  · obtain ⟨x, h1, _, h3⟩ := F.deliver_cons h hb
    exact ⟨.inl h1, h3⟩
theorem Fl.take_nil (F : Fl s cr ep B xs) (h : s.wait = []) : s.take = s := by
  unfold Ch.take
  rw [h]
  cases s
  simp at h
  subst h
  rfl
theorem Fl.take_cons (F : Fl s cr ep B xs) {x : α} {r : List α} (h : s.wait = x :: r) : ∃ ys, xs = x :: ys ∧ Fl s.take cr ep B ys := by
  obtain ⟨mv, h1, h2, h3, h4⟩ := F.hold
  rw [h] at h4 h3
  refine ⟨r ++ mv ++ s.back, by rw [← h4]; simp, F.hcr, F.hep, F.low, F.hB, F.hgr, mv, h1, h2, ?_, ?_⟩
  · show (mv.length : Int) + (s.wait.tail).length ≤ cr
    rw [h]
    simp at h3 ⊢
    omega
  · show s.wait.tail ++ mv ++ s.back = _
    rw [h]; rfl
theorem Fl.rest (F : Fl s cr ep B xs) : s.rest = xs := by
  obtain ⟨mv, h1, h2, h3, h4⟩ := F.hold
  unfold Ch.rest
  rw [h1, frames_snd, h4]
theorem Fl.drain (F : Fl s cr ep B xs) (h0 : 0 ≤ cr) : Fl s.drain cr ep B [] := by
  obtain ⟨mv, h1, h2, h3, h4⟩ := F.hold
  have := F.low
  exact ⟨F.hcr, F.hep, by show 1 ≤ s.out; omega, F.hB, F.hgr, [], rfl, by show s.out = s.out + _; simp, by simpa [Ch.drain] using h0, rfl⟩
theorem Fl.kill (F : Fl s cr ep B xs) (h0 : 0 ≤ cr) (n : Int) : Fl (s.kill n) cr (max ep n) 1 [] := by
  refine ⟨F.hcr, by show max s.ep n = _; rw [F.hep], by show (1 : Int) ≤ 1; omega, by show (1 : Int) ≤ _; omega, F.hgr, [], rfl, rfl, by simpa [Ch.kill] using h0, rfl⟩
theorem Fl.arrive (F : Fl s cr ep B xs) {e q : Int} (x : α) (he : e ≠ ep) : s.arr e q = 62 ∧ s.arrive e q x = s := by
  have h : s.arr e q = 62 := by unfold Ch.arr; rw [if_pos (by rw [F.hep]; exact he)]
  exact ⟨h, by unfold Ch.arrive; rw [h, if_neg (by decide)]⟩
/-- A round of Send, Deliver: then what is first waits. -/
theorem Fl.moved (F : Fl s cr ep B xs) (h1 : 1 ≤ cr) (hb : B < 100000) {x : α} {r : List α} (hx : xs = x :: r) : ∃ ws, s.send.deliver.wait = x :: ws := by
  have F1 := F.send (by omega)
  have F2 := (F1.deliver (by omega)).2
  have key : s.send.deliver.wait ≠ [] := by
    by_cases hm : s.send.mov = []
    · rw [(F1.deliver_nil hm).2]
      intro hw
      have hs : s.send.wait = s.wait := by
        unfold Ch.send
        split
        · rfl
        · split <;> rfl
      obtain ⟨ha, _⟩ := F1.sizes
      obtain ⟨hA, _⟩ := F.sizes
      rw [hm, hw, hx] at ha
      simp at ha
      rw [hs] at hw
      unfold Ch.send at hm ha
      cases hl : s.back with
      | nil => rw [hl] at ha; simp at ha; rw [hl] at ha; simp at ha
      | cons y t =>
        rw [hl] at hm
        simp only at hm
        split at hm
        · simp at hm
        · rename_i hc
          apply hc
          unfold Ch.cred
          rw [hm, hw, F.hcr]
          simp
          omega
    · obtain ⟨y, _, h3, _⟩ := F1.deliver_cons hm (by omega)
      rw [h3]; simp
  cases hw : s.send.deliver.wait with
  | nil => exact absurd hw key
  | cons y ws =>
    obtain ⟨ys, hy, _⟩ := F2.take_cons hw
    rw [hx] at hy
    injection hy with h _
    exact ⟨ws, by rw [h]⟩
theorem Fl.idle (F : Fl s cr ep B []) : s.wait = [] := by
  obtain ⟨h, _⟩ := F.sizes
  exact List.eq_nil_of_length_eq_zero (by simp only [List.length_nil] at h; omega)
end
end Go.Proofs.Ytoiokmfdmpifiaa

import Derived.Test.YtjdkpogkhecijaaSv
set_option linter.unusedVariables false
set_option linter.unusedSimpArgs false
namespace Go.Proofs.Ytjdkpogkhecijaa
/-- s[:len(s):len(s)]. -/
theorem cut_cap (P : Program) (T t : TypeId) (sz : Nat) (ht : P.underlying T = some (.slice t)) (hi : (P.info? t).map (·.size) = some sz) (A : Option Addr) (n c : Nat) (hc : n ≤ c) :
    ∀ (W : World) (kl kh : IntKind), (Instr.slice T (.slice A n c) none (some (.int kl (n : Int))) (some (.int kh (n : Int)))).run P W = .ok (.slice A n n) W := by
  intro W kl kh
  obtain ⟨i, hi0, hs⟩ := Option.map_eq_some_iff.1 hi
  have hel : P.elem T = t := by simp [Program.elem, ht]
  have hu : P.underlying T = some (.slice (P.elem T)) := by rw [hel]; exact ht
  simp [Instr.slice, run_underlying hu, Instr.sliceBounds, run_sliceBound, sizeOf, typeInfo, hel, hi0, hs, show (n : Int) ≤ (c : Int) by omega]
  intro _
  cases A with
  | none => rfl
  | some a =>
    obtain ⟨b, o, sp⟩ := a
    simp [Addr.add]

/-- s[:k]. -/
theorem cut_take (P : Program) (T t : TypeId) (sz : Nat) (ht : P.underlying T = some (.slice t)) (hi : (P.info? t).map (·.size) = some sz) (A : Option Addr) (n c k : Nat) (hk : k ≤ c) :
    ∀ (W : World) (kh : IntKind), (Instr.slice T (.slice A n c) none (some (.int kh (k : Int))) none).run P W = .ok (.slice A k c) W := by
  intro W kh
  obtain ⟨i, hi0, hs⟩ := Option.map_eq_some_iff.1 hi
  have hel : P.elem T = t := by simp [Program.elem, ht]
  have hu : P.underlying T = some (.slice (P.elem T)) := by rw [hel]; exact ht
  simp [Instr.slice, run_underlying hu, Instr.sliceBounds, run_sliceBound, sizeOf, typeInfo, hel, hi0, hs, show (k : Int) ≤ (c : Int) by omega]
  intro _
  cases A with
  | none => rfl
  | some a =>
    obtain ⟨b, o, sp⟩ := a
    simp [Addr.add]
end Go.Proofs.Ytjdkpogkhecijaa

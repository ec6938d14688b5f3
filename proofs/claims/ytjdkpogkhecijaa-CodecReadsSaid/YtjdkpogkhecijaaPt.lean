/-
  A region of which two operations may come up at one place (say an allocation and the first store): Pn's law with two branches.
-/
import Derived.Test.YtjdkpogkhecijaaPn
set_option linter.unusedVariables false
namespace Go.Proofs.Ytjdkpogkhecijaa
section
variable {P : Program} {ops : Array Oper} {Q : Exit → Act → World → Prop} {S : World → Prop} {n : Nat}
/-- One of two comes up. -/
theorem Left.two {i j : Nat} {oi oj : Oper} {fuel : Nat} {L : Array Bool} {a : Act} {w : World} (hi : ops[i]? = some oi) (hj : ops[j]? = some oj) (hr : Region.ready .any ops L = [i, j])
    (h1 : ∀ K' : Act → World → Prop, Shut (∀ a w, ((L.setIfInBounds i true).getD n false = true ∨ S w) → Left P ops Q S n fuel (L.setIfInBounds i true) a w → K' a w) → if Region.wanted oi (yielded ops a.tmps) = true then Oper.wp P oi a w K' Q else K' (a.put oi.dst undef) w)
    (h2 : ∀ K' : Act → World → Prop, Shut (∀ a w, ((L.setIfInBounds j true).getD n false = true ∨ S w) → Left P ops Q S n fuel (L.setIfInBounds j true) a w → K' a w) → if Region.wanted oj (yielded ops a.tmps) = true then Oper.wp P oj a w K' Q else K' (a.put oj.dst undef) w) :
    Left P ops Q S n (fuel + 1) L a w := by
  refine ⟨fun h0 => (by rw [h0] at hr; cases hr), fun k hk => ?_⟩
  rw [hr] at hk
  rcases List.mem_cons.1 hk with rfl | hk
  · exact wpOp_step hi fun K' hK => h1 K' (fun a w hS hW => hK a w ⟨hS, hW⟩)
  · obtain rfl : k = j := by simpa using hk
    exact wpOp_step hj fun K' hK => h2 K' (fun a w hS hW => hK a w ⟨hS, hW⟩)
end
end Go.Proofs.Ytjdkpogkhecijaa

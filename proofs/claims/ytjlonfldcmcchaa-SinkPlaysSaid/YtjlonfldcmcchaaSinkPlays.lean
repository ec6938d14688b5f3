/- The law SinkPlays of the given program: whatever the input, it returns true, and the input reads as it did. No condition. -/
import Derived.Test.YtjlonfldcmcchaaRows
import Derived.Test.YtjlonfldcmcchaaOp
import Derived.Test.YtjlonfldcmcchaaSp
import Derived.WalkKit
import Derived.ProofKit
import Derived.OpenShut
import Derived.ShutString
import Derived.ChangeOld
import Derived.Below
import Derived.SizedLaws
set_option linter.unusedVariables false
set_option linter.unusedSimpArgs false
namespace Go.Proofs.Ytjlonfldcmcchaa.sinkPlaysRowProof
open Go.ChangeShapes Go.WideShapes Go.ChangeAt Go.RowKit
open Go.ChangeMaps (open_string shut_string)
theorem own : ownKnob Try.prog.godebug = none := by kernel_rfl
theorem laidOut : laidOutB Try.prog = true := by kernel_rfl
set_option maxRecDepth 100000 in
theorem lifted (os : Os) (started : os.Started) (H : Type) (enc : TypeId × Value → H) :
    ReturnsInHanded {} Try.checked os 3 .any (Rows.sinkPlaysSpec.pre6 enc Try.prog Try.f3 Rows.sinkPlaysRow.domain false) (Rows.sinkPlaysSpec.post enc Try.prog Try.f3 false true false false) := by
  refine returnsInHanded_of_change_sized (C := Try.checked) own started (by kernel_rfl) Try.func3
    (ChangeSpec.witness6 (enc := enc) (C := Try.checked) false ⟨#[], #[.slice none 0 0], []⟩ 8 (by kernel_rfl) (by kernel_rfl) (by kernel_rfl) (by kernel_rfl)) ?_
  intro W base args ds gs before hval0 hW hcnd hsz0 _
  have hsz : (DataW.weightsEach Try.prog (Try.f3.params.toList ++ Rows.sinkPlaysSpec.plain.varTypes Try.prog) (ds ++ gs)).all (· ≤ reachBytes) = true := hsz0
  have hval : ∀ (j : Nat) t v, Try.f3.params[j]? = some t → args[j]? = some v → Value.okWide Try.prog W .any base t v := hval0
  have hW' := hW
  obtain ⟨p, q, hA0, hV, rfl, hfz, hnd⟩ := hW
  have hA : DataW.TrodAll enc Try.prog W 0 (fun _ => true) true Try.f3.params.toList args.toList ds p := hA0
  rw [Try.params3] at hA hval hsz
  obtain ⟨v0, vs0, d0, ds0, p0, q0, hargs, rfl, rfl, h0, r0⟩ := trodAll_cons hA
  obtain ⟨rfl, rfl, rfl⟩ := trodAll_nil r0
  obtain rfl : args = #[v0] := by cases args; simp_all
  obtain ⟨rfl, rfl⟩ := trodVars_none hV
  obtain ⟨a0, len0, cap0, rfl⟩ := okWide_slice Try.underlying22 (hval 0 22 v0 rfl rfl)
  have k0 := h0
  have lt0 : ∀ x ∈ p0, x.block < W.heap.size := by obtain ⟨m, hm⟩ := k0; exact DataW.trod_lt m _ _ _ hm
  obtain ⟨xs0, rd0, ok0⟩ := opn_sliceR (E := EStep) Try.underlying22 (by kernel_rfl) (by decide) (opnR_struct (fs := _) Try.underlying34 (by kernel_rfl) (opnFsR_cons rfl (by kernel_rfl) (OpnR.of (opn_int Try.underlying3)) (opnFsR_cons rfl (by kernel_rfl) (OpnR.of (opn_int Try.underlying3)) (opnFsR_cons rfl (by kernel_rfl) (OpnR.of (opn_int Try.underlying32)) (opnFsR_one rfl (by kernel_rfl) (opnR_slc Try.underlying29 (by kernel_rfl) (by decide) (OpnR.of (opn_struct (fs := _) Try.underlying39 (by kernel_rfl) (opnFs_cons rfl (by kernel_rfl) (opn_int Try.underlying2) (opnFs_cons rfl (by kernel_rfl) (opn_int Try.underlying2) (opnFs_one rfl (by kernel_rfl) (opn_int Try.underlying2)))))))))))) h0 (fun n hn => by have := List.all_eq_true.1 hsz _ (DataW.weights_mem_each (j := 0) (t := 22) rfl rfl n hn); simpa using this)
  clear hA0 hval0 hsz0 hsz
  refine (sinkplays_walk a0 len0 cap0 xs0 W rd0 (fun x hx => stok_of (ok0 x hx))).mono fun e W' ⟨he, bel⟩ => ?_
  subst he
  exact ⟨_, rfl, _, _, _, [], _, [], hW', trodAll_mk1 (shut_bool Try.underlying4 _), (trodAll_cons_mk (Below.trod laidOut (by kernel_rfl) (of_decide_eq_true (by kernel_rfl)) k0 bel lt0) trodAll_mk0), rfl, bel.frame _, fun h => by cases h⟩
theorem over : Rows.sinkPlaysRow.holds Try.pinned (OpenSpec.ofChange Rows.sinkPlaysSpec) :=
  OpenClaim.holds_of_wide 3 Try.f3 rfl rfl rfl rfl rfl rfl rfl ⟨rfl, rfl, rfl, rfl, rfl⟩ rfl rfl rfl rfl rfl (by kernel_rfl) Try.func3 (by kernel_rfl)
    (of_decide_eq_true (by kernel_rfl)) (by unfold Func.isWrapper; first | (rw [if_pos (by decide +kernel)]; kernel_rfl) | (rw [if_neg (by decide +kernel)]; exact ⟨rfl, rfl⟩))
    (fun os started H enc _ => lifted os started H enc)
theorem proved : Rows.SinkPlaysSaid := over
end Go.Proofs.Ytjlonfldcmcchaa.sinkPlaysRowProof
namespace Go.Proofs.Ytjlonfldcmcchaa
/-- The row, under a short name, for the claim. -/
theorem sinkPlays_holds : Rows.SinkPlaysSaid := sinkPlaysRowProof.proved
#print axioms sinkPlays_holds
end Go.Proofs.Ytjlonfldcmcchaa

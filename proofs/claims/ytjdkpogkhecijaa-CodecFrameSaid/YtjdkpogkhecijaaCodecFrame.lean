/- The law CodecFrame of the given program: whatever the input, it returns true, and the input reads as it did. No condition. -/
import Derived.Test.YtjdkpogkhecijaaRows
import Derived.Test.YtjdkpogkhecijaaOp
import Derived.Test.YtjdkpogkhecijaaLf
import Derived.WalkKit
import Derived.ProofKit
import Derived.OpenShut
import Derived.ShutString
import Derived.ChangeOld
import Derived.Below
import Derived.SizedLaws
set_option linter.unusedVariables false
set_option linter.unusedSimpArgs false
namespace Go.Proofs.Ytjdkpogkhecijaa.codecFrameRowProof
open Go.ChangeShapes Go.WideShapes Go.ChangeAt Go.RowKit
open Go.ChangeMaps (open_string shut_string)
theorem own : ownKnob Try.prog.godebug = none := by kernel_rfl
theorem laidOut : laidOutB Try.prog = true := by kernel_rfl
set_option maxRecDepth 100000 in
theorem lifted (os : Os) (started : os.Started) (H : Type) (enc : TypeId × Value → H) :
    ReturnsInHanded {} Try.checked os 4 .any (Rows.codecFrameSpec.pre6 enc Try.prog Try.f4 Rows.codecFrameRow.domain false) (Rows.codecFrameSpec.post enc Try.prog Try.f4 false true false false) := by
  refine returnsInHanded_of_change_sized (C := Try.checked) own started (by kernel_rfl) Try.func4
    (ChangeSpec.witness6 (enc := enc) (C := Try.checked) false ⟨#[], #[.agg (frc zeroF), .agg (ctc zeroC)], []⟩ 8 (by kernel_rfl) (by kernel_rfl) (by kernel_rfl) (by kernel_rfl)) ?_
  intro W base args ds gs before hval0 hW hcnd hsz0 _
  have hsz : (DataW.weightsEach Try.prog (Try.f4.params.toList ++ Rows.codecFrameSpec.plain.varTypes Try.prog) (ds ++ gs)).all (· ≤ reachBytes) = true := hsz0
  have hval : ∀ (j : Nat) t v, Try.f4.params[j]? = some t → args[j]? = some v → Value.okWide Try.prog W .any base t v := hval0
  have hW' := hW
  obtain ⟨p, q, hA0, hV, rfl, hfz, hnd⟩ := hW
  have hA : DataW.TrodAll enc Try.prog W 0 (fun _ => true) true Try.f4.params.toList args.toList ds p := hA0
  rw [Try.params4] at hA hval hsz
  obtain ⟨v0, vs0, d0, ds0, p0, q0, hargs, rfl, rfl, h0, r0⟩ := trodAll_cons hA
  obtain ⟨v1, vs1, d1, ds1, p1, q1, rfl, rfl, rfl, h1, r1⟩ := trodAll_cons r0
  obtain ⟨rfl, rfl, rfl⟩ := trodAll_nil r1
  obtain rfl : args = #[v0, v1] := by cases args; simp_all
  obtain ⟨rfl, rfl⟩ := trodVars_none hV
  obtain ⟨cs0, rfl, hcs0⟩ := okWide_struct Try.underlying37 (hval 0 37 v0 rfl rfl)
  have k0 := h0
  have lt0 : ∀ x ∈ p0, x.block < W.heap.size := by obtain ⟨m, hm⟩ := k0; exact DataW.trod_lt m _ _ _ hm
  obtain ⟨m0, hm0⟩ := h0
  obtain ⟨xs0, hy0, ok0⟩ := (opn_struct (fs := _) Try.underlying37 (by kernel_rfl) (opnFs_cons rfl (by kernel_rfl) (opn_int Try.underlying3) (opnFs_cons rfl (by kernel_rfl) (opn_struct (fs := _) Try.underlying34 (by kernel_rfl) (opnFs_cons rfl (by kernel_rfl) (opn_int Try.underlying2) (opnFs_cons rfl (by kernel_rfl) (opn_int Try.underlying2) (opnFs_one rfl (by kernel_rfl) (opn_int Try.underlying2))))) (opnFs_cons rfl (by kernel_rfl) (opn_int Try.underlying2) (opnFs_cons rfl (by kernel_rfl) (opn_int Try.underlying35) (opnFs_one rfl (by kernel_rfl) (opn_flag Try.underlying4))))))) H enc W 0 (fun _ => true) true m0 _ _ hm0
  obtain rfl : cs0 = frc xs0 := by apply Array.ext'; exact hy0
  obtain ⟨cs1, rfl, hcs1⟩ := okWide_struct Try.underlying39 (hval 1 39 v1 rfl rfl)
  have k1 := h1
  have lt1 : ∀ x ∈ p1, x.block < W.heap.size := by obtain ⟨m, hm⟩ := k1; exact DataW.trod_lt m _ _ _ hm
  obtain ⟨m1, hm1⟩ := h1
  obtain ⟨xs1, hy1, ok1⟩ := (opn_struct (fs := _) Try.underlying39 (by kernel_rfl) (opnFs_cons rfl (by kernel_rfl) (opn_int Try.underlying3) (opnFs_cons rfl (by kernel_rfl) (opn_int Try.underlying35) (opnFs_cons rfl (by kernel_rfl) (opn_int Try.underlying35) (opnFs_one rfl (by kernel_rfl) (opn_int Try.underlying3)))))) H enc W 0 (fun _ => true) true m1 _ _ hm1
  obtain rfl : cs1 = ctc xs1 := by apply Array.ext'; exact hy1
  clear hA0 hval0 hsz0 hsz
  refine (codecframe_walk2 xs0 xs1 W (frwf_of ok0) (ctwf_of ok1)).mono fun e W' ⟨he, bel⟩ => ?_
  subst he
  exact ⟨_, rfl, _, _, _, [], _, [], hW', trodAll_mk1 (shut_bool Try.underlying4 _), (trodAll_cons_mk (Below.trod laidOut (by kernel_rfl) (of_decide_eq_true (by kernel_rfl)) k0 bel lt0) (trodAll_cons_mk (Below.trod laidOut (by kernel_rfl) (of_decide_eq_true (by kernel_rfl)) k1 bel lt1) trodAll_mk0)), rfl, bel.frame _, fun h => by cases h⟩
theorem over : Rows.codecFrameRow.holds Try.pinned (OpenSpec.ofChange Rows.codecFrameSpec) :=
  OpenClaim.holds_of_wide 4 Try.f4 rfl rfl rfl rfl rfl rfl rfl ⟨rfl, rfl, rfl, rfl, rfl⟩ rfl rfl rfl rfl rfl (by kernel_rfl) Try.func4 (by kernel_rfl)
    (of_decide_eq_true (by kernel_rfl)) (by unfold Func.isWrapper; first | (rw [if_pos (by decide +kernel)]; kernel_rfl) | (rw [if_neg (by decide +kernel)]; exact ⟨rfl, rfl⟩))
    (fun os started H enc _ => lifted os started H enc)
theorem proved : Rows.CodecFrameSaid := over
end Go.Proofs.Ytjdkpogkhecijaa.codecFrameRowProof
namespace Go.Proofs.Ytjdkpogkhecijaa
/-- The row, under a short name, for the claim. -/
theorem codecFrame_holds : Rows.CodecFrameSaid := codecFrameRowProof.proved
#print axioms codecFrame_holds
end Go.Proofs.Ytjdkpogkhecijaa

/- The law CodecApart of the given program: whatever the input, it returns true, and the input reads as it did. No condition. -/
import Derived.Test.YtjdkpogkhecijaaRows
import Derived.Test.YtjdkpogkhecijaaOp
import Derived.Test.YtjdkpogkhecijaaVe
import Derived.WalkKit
import Derived.ProofKit
import Derived.OpenShut
import Derived.ShutString
import Derived.ChangeOld
import Derived.Below
import Derived.SizedLaws
set_option linter.unusedVariables false
set_option linter.unusedSimpArgs false
namespace Go.Proofs.Ytjdkpogkhecijaa.codecApartRowProof
open Go.ChangeShapes Go.WideShapes Go.ChangeAt Go.RowKit
open Go.ChangeMaps (open_string shut_string)
theorem own : ownKnob Try.prog.godebug = none := by kernel_rfl
theorem laidOut : laidOutB Try.prog = true := by kernel_rfl
set_option maxHeartbeats 4000000 in
set_option maxRecDepth 100000 in
theorem lifted (os : Os) (started : os.Started) (H : Type) (enc : TypeId × Value → H) :
    ReturnsInHanded {} Try.checked os 5 .any (Rows.codecApartSpec.pre6 enc Try.prog Try.f5 Rows.codecApartRow.domain false) (Rows.codecApartSpec.post enc Try.prog Try.f5 false true false false) := by
  refine returnsInHanded_of_change_sized (C := Try.checked) own started (by kernel_rfl) Try.func5
    (ChangeSpec.witness6 (enc := enc) (C := Try.checked) false ⟨#[], #[.agg (frc zeroF), .agg (frc zeroF), .agg (ctc zeroC), .agg (ctc zeroC), .agg #[.int .i64 0, .int .i64 0, .int .i64 0, .slice none 0 0, .slice none 0 0, .slice none 0 0], .agg #[.int .i64 0, .int .i64 0, .int .i64 0, .slice none 0 0, .slice none 0 0, .slice none 0 0]], []⟩ 8 (by kernel_rfl) (by kernel_rfl) (by kernel_rfl) (by kernel_rfl)) ?_
  intro W base args ds gs before hval0 hW hcnd hsz0 _
  have hsz : (DataW.weightsEach Try.prog (Try.f5.params.toList ++ Rows.codecApartSpec.plain.varTypes Try.prog) (ds ++ gs)).all (· ≤ reachBytes) = true := hsz0
  have hval : ∀ (j : Nat) t v, Try.f5.params[j]? = some t → args[j]? = some v → Value.okWide Try.prog W .any base t v := hval0
  have hW' := hW
  obtain ⟨p, q, hA0, hV, rfl, hfz, hnd⟩ := hW
  have hA : DataW.TrodAll enc Try.prog W 0 (fun _ => true) true Try.f5.params.toList args.toList ds p := hA0
  rw [Try.params5] at hA hval hsz
  obtain ⟨v0, vs0, d0, ds0, p0, q0, hargs, rfl, rfl, h0, r0⟩ := trodAll_cons hA
  obtain ⟨v1, vs1, d1, ds1, p1, q1, rfl, rfl, rfl, h1, r1⟩ := trodAll_cons r0
  obtain ⟨v2, vs2, d2, ds2, p2, q2, rfl, rfl, rfl, h2, r2⟩ := trodAll_cons r1
  obtain ⟨v3, vs3, d3, ds3, p3, q3, rfl, rfl, rfl, h3, r3⟩ := trodAll_cons r2
  obtain ⟨v4, vs4, d4, ds4, p4, q4, rfl, rfl, rfl, h4, r4⟩ := trodAll_cons r3
  obtain ⟨v5, vs5, d5, ds5, p5, q5, rfl, rfl, rfl, h5, r5⟩ := trodAll_cons r4
  obtain ⟨rfl, rfl, rfl⟩ := trodAll_nil r5
  obtain rfl : args = #[v0, v1, v2, v3, v4, v5] := by cases args; simp_all
  obtain ⟨rfl, rfl⟩ := trodVars_none hV
  obtain ⟨cs0, rfl, hcs0⟩ := okWide_struct Try.underlying37 (hval 0 37 v0 rfl rfl)
  have k0 := h0
  have lt0 : ∀ x ∈ p0, x.block < W.heap.size := by obtain ⟨m, hm⟩ := k0; exact DataW.trod_lt m _ _ _ hm
  obtain ⟨m0, hm0⟩ := h0
  obtain ⟨xs0, hy0, ok0⟩ := (opn_struct (fs := _) Try.underlying37 (by kernel_rfl) (opnFs_cons rfl (by kernel_rfl) (opn_int Try.underlying3) (opnFs_cons rfl (by kernel_rfl) (opn_struct (fs := _) Try.underlying34 (by kernel_rfl) (opnFs_cons rfl (by kernel_rfl) (opn_int Try.underlying2) (opnFs_cons rfl (by kernel_rfl) (opn_int Try.underlying2) (opnFs_one rfl (by kernel_rfl) (opn_int Try.underlying2))))) (opnFs_cons rfl (by kernel_rfl) (opn_int Try.underlying2) (opnFs_cons rfl (by kernel_rfl) (opn_int Try.underlying35) (opnFs_one rfl (by kernel_rfl) (opn_flag Try.underlying4))))))) H enc W 0 (fun _ => true) true m0 _ _ hm0
  obtain rfl : cs0 = frc xs0 := by apply Array.ext'; exact hy0
  obtain ⟨cs1, rfl, hcs1⟩ := okWide_struct Try.underlying37 (hval 1 37 v1 rfl rfl)
  have k1 := h1
  have lt1 : ∀ x ∈ p1, x.block < W.heap.size := by obtain ⟨m, hm⟩ := k1; exact DataW.trod_lt m _ _ _ hm
  obtain ⟨m1, hm1⟩ := h1
  obtain ⟨xs1, hy1, ok1⟩ := (opn_struct (fs := _) Try.underlying37 (by kernel_rfl) (opnFs_cons rfl (by kernel_rfl) (opn_int Try.underlying3) (opnFs_cons rfl (by kernel_rfl) (opn_struct (fs := _) Try.underlying34 (by kernel_rfl) (opnFs_cons rfl (by kernel_rfl) (opn_int Try.underlying2) (opnFs_cons rfl (by kernel_rfl) (opn_int Try.underlying2) (opnFs_one rfl (by kernel_rfl) (opn_int Try.underlying2))))) (opnFs_cons rfl (by kernel_rfl) (opn_int Try.underlying2) (opnFs_cons rfl (by kernel_rfl) (opn_int Try.underlying35) (opnFs_one rfl (by kernel_rfl) (opn_flag Try.underlying4))))))) H enc W 0 (fun _ => true) true m1 _ _ hm1
  obtain rfl : cs1 = frc xs1 := by apply Array.ext'; exact hy1
  obtain ⟨cs2, rfl, hcs2⟩ := okWide_struct Try.underlying39 (hval 2 39 v2 rfl rfl)
  have k2 := h2
  have lt2 : ∀ x ∈ p2, x.block < W.heap.size := by obtain ⟨m, hm⟩ := k2; exact DataW.trod_lt m _ _ _ hm
  obtain ⟨m2, hm2⟩ := h2
  obtain ⟨xs2, hy2, ok2⟩ := (opn_struct (fs := _) Try.underlying39 (by kernel_rfl) (opnFs_cons rfl (by kernel_rfl) (opn_int Try.underlying3) (opnFs_cons rfl (by kernel_rfl) (opn_int Try.underlying35) (opnFs_cons rfl (by kernel_rfl) (opn_int Try.underlying35) (opnFs_one rfl (by kernel_rfl) (opn_int Try.underlying3)))))) H enc W 0 (fun _ => true) true m2 _ _ hm2
  obtain rfl : cs2 = ctc xs2 := by apply Array.ext'; exact hy2
  obtain ⟨cs3, rfl, hcs3⟩ := okWide_struct Try.underlying39 (hval 3 39 v3 rfl rfl)
  have k3 := h3
  have lt3 : ∀ x ∈ p3, x.block < W.heap.size := by obtain ⟨m, hm⟩ := k3; exact DataW.trod_lt m _ _ _ hm
  obtain ⟨m3, hm3⟩ := h3
  obtain ⟨xs3, hy3, ok3⟩ := (opn_struct (fs := _) Try.underlying39 (by kernel_rfl) (opnFs_cons rfl (by kernel_rfl) (opn_int Try.underlying3) (opnFs_cons rfl (by kernel_rfl) (opn_int Try.underlying35) (opnFs_cons rfl (by kernel_rfl) (opn_int Try.underlying35) (opnFs_one rfl (by kernel_rfl) (opn_int Try.underlying3)))))) H enc W 0 (fun _ => true) true m3 _ _ hm3
  obtain rfl : cs3 = ctc xs3 := by apply Array.ext'; exact hy3
  obtain ⟨cs4, rfl, hcs4⟩ := okWide_struct Try.underlying55 (hval 4 55 v4 rfl rfl)
  have k4 := h4
  have lt4 : ∀ x ∈ p4, x.block < W.heap.size := by obtain ⟨m, hm⟩ := k4; exact DataW.trod_lt m _ _ _ hm
  obtain ⟨m4, hm4⟩ := h4
  obtain ⟨xs4, hy4, ok4⟩ := (open_snap) H enc 0 (fun _ => true) true m4 _ _ hm4 (fun n hn => by have := List.all_eq_true.1 hsz _ (DataW.weights_mem_each (j := 4) (t := 55) rfl rfl n hn); simpa using this)
  obtain rfl : cs4 = snc xs4 := by apply Array.ext'; exact hy4
  obtain ⟨cs5, rfl, hcs5⟩ := okWide_struct Try.underlying55 (hval 5 55 v5 rfl rfl)
  have k5 := h5
  have lt5 : ∀ x ∈ p5, x.block < W.heap.size := by obtain ⟨m, hm⟩ := k5; exact DataW.trod_lt m _ _ _ hm
  obtain ⟨m5, hm5⟩ := h5
  obtain ⟨xs5, hy5, ok5⟩ := (open_snap) H enc 0 (fun _ => true) true m5 _ _ hm5 (fun n hn => by have := List.all_eq_true.1 hsz _ (DataW.weights_mem_each (j := 5) (t := 55) rfl rfl n hn); simpa using this)
  obtain rfl : cs5 = snc xs5 := by apply Array.ext'; exact hy5
  clear hA0 hval0 hsz0 hsz
  refine (codecapart_walk2 xs0 xs1 xs2 xs3 xs4 xs5 W (frwf_of2 ok0) (frwf_of2 ok1) (ctwf_of2 ok2) (ctwf_of2 ok3) (ok4) (ok5)).mono fun e W' ⟨he, bel⟩ => ?_
  subst he
  exact ⟨_, rfl, _, _, _, [], _, [], hW', trodAll_mk1 (shut_bool Try.underlying4 _), (trodAll_cons_mk (Below.trod laidOut (by kernel_rfl) (of_decide_eq_true (by kernel_rfl)) k0 bel lt0) (trodAll_cons_mk (Below.trod laidOut (by kernel_rfl) (of_decide_eq_true (by kernel_rfl)) k1 bel lt1) (trodAll_cons_mk (Below.trod laidOut (by kernel_rfl) (of_decide_eq_true (by kernel_rfl)) k2 bel lt2) (trodAll_cons_mk (Below.trod laidOut (by kernel_rfl) (of_decide_eq_true (by kernel_rfl)) k3 bel lt3) (trodAll_cons_mk (Below.trod laidOut (by kernel_rfl) (of_decide_eq_true (by kernel_rfl)) k4 bel lt4) (trodAll_cons_mk (Below.trod laidOut (by kernel_rfl) (of_decide_eq_true (by kernel_rfl)) k5 bel lt5) trodAll_mk0)))))), rfl, bel.frame _, fun h => by cases h⟩
theorem over : Rows.codecApartRow.holds Try.pinned (OpenSpec.ofChange Rows.codecApartSpec) :=
  OpenClaim.holds_of_wide 5 Try.f5 rfl rfl rfl rfl rfl rfl rfl ⟨rfl, rfl, rfl, rfl, rfl⟩ rfl rfl rfl rfl rfl (by kernel_rfl) Try.func5 (by kernel_rfl)
    (of_decide_eq_true (by kernel_rfl)) (by unfold Func.isWrapper; first | (rw [if_pos (by decide +kernel)]; kernel_rfl) | (rw [if_neg (by decide +kernel)]; exact ⟨rfl, rfl⟩))
    (fun os started H enc _ => lifted os started H enc)
theorem proved : Rows.CodecApartSaid := over
end Go.Proofs.Ytjdkpogkhecijaa.codecApartRowProof
namespace Go.Proofs.Ytjdkpogkhecijaa
/-- The row, under a short name, for the claim. -/
theorem codecApart_holds : Rows.CodecApartSaid := codecApartRowProof.proved
#print axioms codecApart_holds
end Go.Proofs.Ytjdkpogkhecijaa

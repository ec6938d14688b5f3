import Derived.Test.YtbifajiigpalhaaPe
import Derived.Test.YtbifajiigpalhaaEq
import Derived.Test.YtbifajiigpalhaaProg
import Derived.Test.YtbifajiigpalhaaLs
import Derived.Outline
import Derived.StillTailTactics
import Derived.Deep.DeepCutAuto
import Derived.Deep.CutBlock
import Derived.Deep.LoopGhost
import Derived.Deep.QuietTactic
import Derived.BigQuiet
import Derived.Deep.RegionHeld3
import Derived.Deep.RegionLaw
set_option linter.unusedVariables false
set_option linter.unusedSimpArgs false
namespace Go.Proofs.Ytbifajiigpalhaa
open Go.RowKit
def nd0 : NRow := (1, (none, 0, 0), 2, (0, 0, (none, 0, 0)), 0, (0, 0, 0))
def nd1 (b : Nat) : NRow := (6, (some ⟨b, 0, none⟩, 1, 1), 2, (0, 0, (none, 0, 0)), 1, (0, 0, 0))
def nd2 (b : Nat) : NRow := (8, (some ⟨b, 0, none⟩, 1, 1), 2, (0, 0, (none, 0, 0)), 0, (0, 0, 0))
def kzs (b1 b2 : Nat) : List Nd := [(nd0, []), (nd1 b1, [0]), (nd2 b2, [1])]
def kT : List (Int × Int) := [(0, 0), (0, 1), (1, 0), (1, 1), (2, 0), (2, 1)]
def kC : List (Int × Int × Int) := [(0, 2, 0), (0, 3, 0), (1, 2, 0), (1, 3, 0), (2, 4, 0), (3, 5, 0)]
theorem k_tasks (b1 b2 : Nat) : tasks (kzs b1 b2) = kT := by rfl
theorem k_chans (b1 b2 : Nat) : chans (kzs b1 b2) = kC := by rfl
theorem k_outs (b1 b2 : Nat) : outsOf (kzs b1 b2) kT kC 0 1 = [1] := by kernel_rfl
theorem k_to : toOf kC 2 = [0, 2] := by rfl
theorem k_group : group 1 = 9 := by decide +kernel
theorem k_keyed1 (b1 b2 : Nat) : keyed (kzs b1 b2) 1 = true := by rfl
theorem k_keyed0 (b1 b2 : Nat) : keyed (kzs b1 b2) 0 = false := by rfl
theorem k_ok (b1 b2 : Nat) : PlanOk (kzs b1 b2) kT kC := ⟨by decide, by show ∀ t ∈ kT, isN 3 t.1 = true; decide⟩
set_option maxRecDepth 100000 in
set_option maxHeartbeats 4000000 in
theorem known8 (w w0 : World) (R : List HP) (H : Hs w0 w R) : Calls Try.prog 8 #[] w fun e w' => e = .returned (.bool true) ∧ Hs w0 w' R := by
  have K1 := H.ls_lit (Enc.num .i64) 3 [0] #[.int .i64 0] rfl 1 rfl (by omega)
  obtain ⟨b1, hb1⟩ : ∃ b, w.heap.size = b := ⟨_, rfl⟩
  rw [hb1] at K1
  have K2 := K1.ls_lit (Enc.num .i64) 3 [1] #[.int .i64 1] rfl 1 rfl (by omega)
  have s1 : (w.alloc (.cells #[.int .i64 0] 3)).heap.size = b1 + 1 := by rw [← hb1]; exact Array.size_push ..
  rw [s1] at K2
  have K3 := K2.ls_lit EN 54 [nd0, nd1 b1, nd2 (b1 + 1)] #[.int .i64 1, .slice none 0 0, .int .i64 2, .int .i64 0, .int .i64 0, .slice none 0 0, .int .i64 0, .int .i64 0, .int .i64 0, .int .i64 0, .int .i64 6, .slice (some ⟨b1, 0, none⟩) 1 1, .int .i64 2, .int .i64 0, .int .i64 0, .slice none 0 0, .int .i64 1, .int .i64 0, .int .i64 0, .int .i64 0, .int .i64 8, .slice (some ⟨b1 + 1, 0, none⟩) 1 1, .int .i64 2, .int .i64 0, .int .i64 0, .slice none 0 0, .int .i64 0, .int .i64 0, .int .i64 0, .int .i64 0] rfl 3 rfl (by omega)
  have s2 : ((w.alloc (.cells #[.int .i64 0] 3)).alloc (.cells #[.int .i64 1] 3)).heap.size = b1 + 1 + 1 := by rw [← s1]; exact Array.size_push ..
  rw [s2] at K3
  have K4 := K3.alloc (.cells #[.slice (some ⟨b1 + 1 + 1, 0, none⟩) 3 3] 24)
  have s3 : (((w.alloc (.cells #[.int .i64 0] 3)).alloc (.cells #[.int .i64 1] 3)).alloc (.cells #[.int .i64 1, .slice none 0 0, .int .i64 2, .int .i64 0, .int .i64 0, .slice none 0 0, .int .i64 0, .int .i64 0, .int .i64 0, .int .i64 0, .int .i64 6, .slice (some ⟨b1, 0, none⟩) 1 1, .int .i64 2, .int .i64 0, .int .i64 0, .slice none 0 0, .int .i64 1, .int .i64 0, .int .i64 0, .int .i64 0, .int .i64 8, .slice (some ⟨b1 + 1, 0, none⟩) 1 1, .int .i64 2, .int .i64 0, .int .i64 0, .slice none 0 0, .int .i64 0, .int .i64 0, .int .i64 0, .int .i64 0] 54)).heap.size = b1 + 1 + 1 + 1 := by rw [← s2]; exact Array.size_push ..
  rw [s3] at K4
  clear K1 K2 K3 s1 s2 s3 H
  replace K4 := Lib.hid K4
  go_enter Try.func8, Try.ntmps8
  go_upto_region 2 with (fail)
  clear hb1
  generalize World.alloc _ _ = w1 at K4 ⊢
  generalize b1 + 1 + 1 + 1 = bj at K4 ⊢
  generalize b1 + 1 + 1 = bn at K4 ⊢
  generalize b1 + 1 = b2 at K4 ⊢
  obtain ⟨zs, hzs⟩ : ∃ zs, kzs b1 b2 = zs := ⟨_, rfl⟩
  have hj : Hid (∀ w' R', Hs w0 w' (Ls EN 54 (.slice (some ⟨bn, 0, none⟩) 3 3) [nd0, nd1 b1, nd2 b2] :: Ls (Enc.num .i64) 3 (.slice (some ⟨b2, 0, none⟩) 1 1) [1] :: Ls (Enc.num .i64) 3 (.slice (some ⟨b1, 0, none⟩) 1 1) [0] :: R') → JobR w' (.slice (some ⟨bn, 0, none⟩) 3 3) zs) := by
    intro w' R' h
    rw [← hzs]
    refine ⟨h.ls_rd, fun z hz => ?_⟩
    simp only [kzs, List.mem_cons, List.not_mem_nil, or_false] at hz
    rcases hz with rfl | rfl | rfl
    · exact RdL.nil w'
    · exact h.at2.ls_rd
    · exact h.at1.ls_rd
  have z1 : Hid (tasks zs = kT) := by show _ = _; rw [← hzs]; exact k_tasks b1 b2
  have z2 : Hid (chans zs = kC) := by show _ = _; rw [← hzs]; exact k_chans b1 b2
  have z3 : Hid (outsOf zs kT kC 0 1 = [1]) := by show _ = _; rw [← hzs]; exact k_outs b1 b2
  have z4 : Hid (keyed zs 1 = true) := by show _ = _; rw [← hzs]; exact k_keyed1 b1 b2
  have z5 : Hid (keyed zs 0 = false) := by show _ = _; rw [← hzs]; exact k_keyed0 b1 b2
  have z6 : Hid (PlanOk zs kT kC) := by show PlanOk _ _ _; rw [← hzs]; exact k_ok b1 b2
  have z7 : zs.length ≤ 40 := by rw [← hzs]; show 3 ≤ 40; omega
  have z8 : ∀ z ∈ zs, z.2.length ≤ 40 := by rw [← hzs]; show ∀ z ∈ kzs b1 b2, _; simp [kzs]
  clear hzs
  have b0 : w1.cell? ⟨bj, 0, none⟩ = some (.slice (some ⟨bn, 0, none⟩) 3 3) := K4.out.cellOf 0 rfl
  have TM := Lib.hid (make10 (.slice (some ⟨bn, 0, none⟩) 3 3) zs w1 w0 _ K4.out.at3.at3.at3 (fun w' h => hj.out w' _ h) z7 z8)
  rw [z1.out, z2.out] at TM
  rw [show kT.length = 6 from rfl, show kC.length = 6 from rfl] at TM
  clear z7 z8
  go_wp2_with fail
  refine TM.out.mono ?_
  rintro e w2 ⟨A, c, A2, c2, rfl, K5⟩
  have K6 := Lib.hid (K5.alloc (.cells #[.slice A 6 c, .slice A2 6 c2] 30))
  clear K5 TM K4 b0
  go_upto_region 3 with (fail)
  generalize World.alloc w2 _ = w3 at K6 ⊢
  generalize w2.heap.size = bp at K6 ⊢
  have b0 : w3.cell? ⟨bj, 0, none⟩ = some (.slice (some ⟨bn, 0, none⟩) 3 3) := K6.out.at6.cellOf 0 rfl
  go_wp2_with fail
  refine (group22 1 w3).mono ?_
  rw [k_group]
  rintro e w4 ⟨rfl, rfl⟩
  go_wp2_with fail
  refine (part24 9 4 w3).mono ?_
  rw [show partG 9 4 = 2 from rfl]
  rintro e w4 ⟨rfl, rfl⟩
  go_wp2_with fail
  refine (part24 16 4 w3).mono ?_
  rw [show partG 16 4 = 0 from rfl]
  rintro e w4 ⟨rfl, rfl⟩
  go_wp2_with fail
  refine (keyed18 (.slice (some ⟨bn, 0, none⟩) 3 3) zs w3 w0 _ K6.out (hj.out _ _ K6.out.tail.tail.tail) 1).mono ?_
  rw [z4.out]
  rintro e w4 ⟨rfl, K7⟩
  have b0' : w4.cell? ⟨bj, 0, none⟩ = some (.slice (some ⟨bn, 0, none⟩) 3 3) := K7.at6.cellOf 0 rfl
  replace K7 := Lib.hid K7
  clear b0 K6
  go_wp2_with fail
  refine (keyed18 (.slice (some ⟨bn, 0, none⟩) 3 3) zs w4 w0 _ K7.out (hj.out _ _ K7.out.tail.tail.tail) 0).mono ?_
  rw [z5.out]
  rintro e w5 ⟨rfl, K8⟩
  replace K8 := Lib.hid K8
  clear b0' K7
  have b0 : w5.cell? ⟨bj, 0, none⟩ = some (.slice (some ⟨bn, 0, none⟩) 3 3) := K8.out.at6.cellOf 0 rfl
  have p0 : w5.cell? ⟨bp, 0, none⟩ = some (.slice A 6 c) := K8.out.cellOf 0 rfl
  have p1 : w5.cell? ⟨bp, 1, none⟩ = some (.slice A2 6 c2) := K8.out.cellOf 1 rfl
  obtain ⟨g, off, rfl⟩ := K8.out.at2.ls_rd.some_ (by show 0 < 6; omega)
  have e0 : w5.cell? ⟨g, off + 15, none⟩ = some (.int .i64 3) := K8.out.at2.ls_rd.cell (i := 5) rfl 0 rfl
  have e1 : w5.cell? ⟨g, off + 15 + 1, none⟩ = some (.int .i64 5) := K8.out.at2.ls_rd.cell (i := 5) rfl 1 rfl
  have e2 : w5.cell? ⟨g, off + 15 + 2, none⟩ = some (.int .i64 0) := K8.out.at2.ls_rd.cell (i := 5) rfl 2 rfl
  go_wp2_with fail
  refine (outs20 (.slice (some ⟨bn, 0, none⟩) 3 3) (.slice A 6 c) (.slice (some ⟨g, off, none⟩) 6 c2) zs kT kC 0 1 w5 w0 _ K8.out (fun w' h => hj.out _ _ h.tail.tail.tail) (fun w' h => h.at1.ls_rd) (fun w' h => h.at2.ls_rd) z6.out (by decide)).mono ?_
  rw [z3.out]
  rintro e w6 ⟨A3, c3, rfl, K9⟩
  have KA := K9.ls_lit (Enc.num .i64) 3 [1] #[.int .i64 1] rfl 1 rfl (by omega)
  clear b0 p0 p1 e0 e1 e2 K8 K9
  replace KA := Lib.hid KA
  go_wp2_with fail
  generalize World.alloc w6 _ = w7 at KA ⊢
  generalize w6.heap.size = b7 at KA ⊢
  refine (eqlist13 _ _ [1] [1] w7 KA.out.at1.ls_rd KA.out.ls_rd).mono ?_
  rw [decide_eq_true rfl]
  rintro e w8 ⟨rfl, n8, rfl⟩
  have KB := Lib.hid (KA.out.tail.tail.drewN n8)
  clear KA
  generalize World.drewN w7 n8 = w8 at KB ⊢
  have p0 : w8.cell? ⟨bp, 0, none⟩ = some (.slice A 6 c) := KB.out.cellOf 0 rfl
  have p1 : w8.cell? ⟨bp, 1, none⟩ = some (.slice (some ⟨g, off, none⟩) 6 c2) := KB.out.cellOf 1 rfl
  go_wp2_with fail
  refine (to16 (.slice A 6 c) (.slice (some ⟨g, off, none⟩) 6 c2) kC 2 w8 w0 _ KB.out (fun w' h => h.at2.ls_rd) (by decide)).mono ?_
  rw [k_to]
  rintro e w9 ⟨A4, c4, rfl, KC⟩
  have KD := KC.ls_lit (Enc.num .i64) 3 [0, 2] #[.int .i64 0, .int .i64 2] rfl 2 rfl (by omega)
  clear p0 p1 KB KC
  replace KD := Lib.hid KD
  go_wp2_with fail
  generalize World.alloc w9 _ = w10 at KD ⊢
  generalize w9.heap.size = b9 at KD ⊢
  refine (eqlist13 _ _ [0, 2] [0, 2] w10 KD.out.at1.ls_rd KD.out.ls_rd).mono ?_
  rw [decide_eq_true rfl]
  rintro e w11 ⟨rfl, n11, rfl⟩
  go_wp2_with fail
  go_ret
  exact ⟨rfl, (KD.out.tail.tail.tail.tail.tail.tail.tail.tail.tail).drewN n11⟩
end Go.Proofs.Ytbifajiigpalhaa

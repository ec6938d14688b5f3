import Derived.Test.YtjdkpogkhecijaaUg
import Derived.Test.YtjdkpogkhecijaaTg
import Derived.Test.YtjdkpogkhecijaaTc
import Derived.Test.YtjdkpogkhecijaaKn
import Derived.Test.YtjdkpogkhecijaaOp
import Derived.IntWalk
import Derived.Test.YtjdkpogkhecijaaOw
import Derived.Test.YtjdkpogkhecijaaProg
import Derived.Test.YtjdkpogkhecijaaLs
import Derived.Outline
import Derived.StillTailTactics
import Derived.Deep.DeepCutAuto
import Derived.Deep.CutBlock
import Derived.Deep.LoopGhost
import Derived.Deep.QuietTactic
import Derived.BigQuiet
import Derived.Deep.RegionHeld3
import Derived.Deep.RegionLaw
set_option linter.unusedVariables false
set_option linter.unusedSimpArgs false
namespace Go.Proofs.Ytjdkpogkhecijaa
open Go.RowKit
theorem sn_ok {s : Sn} (h : snErr s = 0) (hm : I64 s.2.2.1) (h1 : ∀ x ∈ s.2.2.2.1, I64 x) (h2 : ∀ x ∈ s.2.2.2.2.1, PnOk x) (h3 : ∀ x ∈ s.2.2.2.2.2, FrWf x.2) : SnOk s ∧ snBig s = false ∧ snOut s = snB s := by
  unfold snErr at h
  have hg : snBig s = false := by
    cases e : snBig s with
    | false => rfl
    | true => rw [e, if_pos rfl] at h; cases h
  have hb : snBad s = false := by
    cases e : snBad s with
    | false => rfl
    | true => rw [hg, e, if_neg (by simp), if_pos rfl] at h; cases h
  refine ⟨?_, hg, by unfold snOut; rw [hg, hb]; rfl⟩
  unfold snBig at hg
  unfold snBad at hb
  simp only [Bool.or_eq_false_iff, decide_eq_false_iff_not] at hg hb
  obtain ⟨b1, b2, b3, b4, b5⟩ := hb
  obtain ⟨g1, g2, g3⟩ := hg
  rw [List.any_eq_false] at b5
  have p2 : (256 : Int) ^ 2 = 65536 := rfl
  refine ⟨⟨by omega, by omega⟩, ⟨by omega, by omega⟩, hm, ⟨by omega, h1⟩, ⟨by omega, h2⟩, ⟨by omega, fun x hx => ?_⟩⟩
  have b6 := b5 x hx
  unfold badO at b6
  simp only [Bool.or_eq_true, decide_eq_true_eq, Bool.not_eq_true', decide_eq_false_iff_not] at b6
  refine ⟨⟨by omega, by omega⟩, Classical.byContradiction fun h => b6 (.inr (.inr h)), h3 x hx⟩
theorem snErr_or (s : Sn) : snErr s = 0 ∨ (snErr s ≠ 0 ∧ 0 < snErr s) := by
  unfold snErr
  split
  · right; omega
  · split
    · right; omega
    · left; rfl
set_option maxRecDepth 100000 in
set_option maxHeartbeats 4000000 in
theorem codecsnap_walk (tk of mk : Int) (A1 A2 A3 : Option Addr) (n1 c1 n2 c2 n3 c3 : Nat) (ms : List Int) (ps : List Pn4) (os : List Ot) (W : World) (hm : I64 mk)
    (r1 : RdL (Enc.num .i64) W (.slice A1 n1 c1) ms) (r2 : RdL ((Enc.num .i64).pair (((Enc.num .i64).pair (Enc.num .i64)).pair (Enc.num .i64))) W (.slice A2 n2 c2) ps) (r3 : RdL ((Enc.num .i64).pair ((Enc.num .i64).pair (((Enc.num .i64).pair ((Enc.num .i64).pair (Enc.num .i64))).pair ((Enc.num .i64).pair ((Enc.num .u64).pair Enc.flag))))) W (.slice A3 n3 c3) os) (k1 : ∀ x ∈ ms, I64 x) (k2 : ∀ x ∈ ps, PnOk x) (k3 : ∀ x ∈ os, FrWf x.2) :
    Calls Try.prog 7 #[.agg #[.int .i64 tk, .int .i64 of, .int .i64 mk, .slice A1 n1 c1, .slice A2 n2 c2, .slice A3 n3 c3]] W fun e w' => e = .returned (.bool true) ∧ Below W.heap.size W w' := by
  have l1 := r1.caps.1
  have l2 := r2.caps.1
  have l3 := r3.caps.1
  have K := Lib.hid ((Hs.start W).alloc (.cells #[.int .i64 tk, .int .i64 of, .int .i64 mk, .slice A1 n1 c1, .slice A2 n2 c2, .slice A3 n3 c3] 55))
  have X := fun h => sn_ok (s := (tk, of, mk, ms, ps, os)) h hm k1 k2 k3
  have T1 := fun w w0 R H h1 h2 h3 => snap27 tk of mk A1 A2 A3 n1 c1 n2 c2 n3 c3 ms ps os w w0 R H h1 h2 h3 (fun x hx => (k3 x hx).2.2)
  have T2 := fun w w0 R H h1 h2 h3 => rsnap33 tk of mk A1 A2 A3 n1 c1 n2 c2 n3 c3 ms ps os w w0 R H h1 h2 h3 (fun x hx => (k3 x hx).2.2)
  have hE := snErr_or (tk, of, mk, ms, ps, os)
  have T3 : snErr (tk, of, mk, ms, ps, os) = 0 → ∀ v w w0 R, Hs w0 w R → (∀ w', Hs w0 w' R → RdL U8 w' v (snOut (tk, of, mk, ms, ps, os))) → Calls Try.prog 34 #[v] w (SP w0 R ((tk, of, mk, ms, ps, os), 0)) := fun h v w w0 R H hr => by
    obtain ⟨x1, x2, x3⟩ := X h
    have := openS34 v (snB (tk, of, mk, ms, ps, os)) w w0 R H (fun w' h => by rw [← x3]; exact hr w' h) (snB_byt _)
    rw [opN_full x1 x2] at this
    exact this
  obtain ⟨L, hL⟩ : ∃ L, snOut (tk, of, mk, ms, ps, os) = L := ⟨_, rfl⟩
  obtain ⟨er, hEr⟩ : ∃ er, snErr (tk, of, mk, ms, ps, os) = er := ⟨_, rfl⟩
  rw [hL, hEr] at T1 T2 T3
  rw [hEr] at hE
  have r10 := Lib.hid r1
  have r20 := Lib.hid r2
  have r30 := Lib.hid r3
  replace l1 := Lib.hid l1
  replace l2 := Lib.hid l2
  replace l3 := Lib.hid l3
  replace T1 := Lib.hid T1
  replace T2 := Lib.hid T2
  replace T3 := Lib.hid T3
  obtain ⟨nl, hnl⟩ : ∃ n, L.length = n := ⟨_, rfl⟩
  replace hnl := Lib.hid hnl
  have hEb : er = 0 ∨ (er == 0) = false ∧ (er != 0) = true := by
    rcases hE with h | h
    · exact .inl h
    · exact .inr ⟨by rw [beq_eq_false_iff_ne]; exact h.1, by rw [bne_iff_ne]; exact h.1⟩
  clear r1 r2 r3 k1 k2 k3 X hL hEr hm hE
  go_enter Try.func7, Try.ntmps7
  go_upto_region 1 with (fail)
  generalize World.alloc _ _ = w1 at K ⊢
  generalize W.heap.size = p at K ⊢
  go_wp2_with fail
  refine (known10 w1 W _ K.out).mono ?_
  rintro e w2 ⟨rfl, K2⟩
  replace K2 := Lib.hid K2
  clear K
  have p0_ : w2.cell? ⟨p, 0, none⟩ = some (.int .i64 tk) := K2.out.cellOf 0 rfl
  have p1_ : w2.cell? ⟨p, 1, none⟩ = some (.int .i64 of) := K2.out.cellOf 1 rfl
  have p2_ : w2.cell? ⟨p, 2, none⟩ = some (.int .i64 mk) := K2.out.cellOf 2 rfl
  have p3_ : w2.cell? ⟨p, 3, none⟩ = some (.slice A1 n1 c1) := K2.out.cellOf 3 rfl
  have p4_ : w2.cell? ⟨p, 4, none⟩ = some (.slice A2 n2 c2) := K2.out.cellOf 4 rfl
  have p5_ : w2.cell? ⟨p, 5, none⟩ = some (.slice A3 n3 c3) := K2.out.cellOf 5 rfl
  go_wp2_with fail
  refine (light25 tk of mk A1 A2 A3 n1 c1 n2 c2 n3 c3 w2 W _ K2.out).mono ?_
  rintro e w3 ⟨lt, rfl, K3⟩
  replace K3 := Lib.hid K3
  clear K2 p0_ p1_ p2_ p3_ p4_ p5_
  have p0_ : w3.cell? ⟨p, 0, none⟩ = some (.int .i64 tk) := K3.out.cellOf 0 rfl
  have p1_ : w3.cell? ⟨p, 1, none⟩ = some (.int .i64 of) := K3.out.cellOf 1 rfl
  have p2_ : w3.cell? ⟨p, 2, none⟩ = some (.int .i64 mk) := K3.out.cellOf 2 rfl
  have p3_ : w3.cell? ⟨p, 3, none⟩ = some (.slice A1 n1 c1) := K3.out.cellOf 3 rfl
  have p4_ : w3.cell? ⟨p, 4, none⟩ = some (.slice A2 n2 c2) := K3.out.cellOf 4 rfl
  have p5_ : w3.cell? ⟨p, 5, none⟩ = some (.slice A3 n3 c3) := K3.out.cellOf 5 rfl
  cases lt with
  | false =>
    clear T1 T2 T3 hEb
    go_wp2_with fail
    go_ret
    exact ⟨rfl, K3.out.tail.under_old⟩
  | true =>
    go_wp2_with fail
    refine (T1.out w3 W _ K3.out (fun w' h => r10.out.old h.tail) (fun w' h => r20.out.old h.tail) (fun w' h => r30.out.old h.tail)).mono ?_
    rintro e w4 ⟨A4, c4, rfl, K4⟩
    rw [hnl.out] at K4 ⊢
    replace K4 := Lib.hid K4
    clear K3 T1 p0_ p1_ p2_ p3_ p4_ p5_
    have p0_ : w4.cell? ⟨p, 0, none⟩ = some (.int .i64 tk) := K4.out.at1.cellOf 0 rfl
    have p1_ : w4.cell? ⟨p, 1, none⟩ = some (.int .i64 of) := K4.out.at1.cellOf 1 rfl
    have p2_ : w4.cell? ⟨p, 2, none⟩ = some (.int .i64 mk) := K4.out.at1.cellOf 2 rfl
    have p3_ : w4.cell? ⟨p, 3, none⟩ = some (.slice A1 n1 c1) := K4.out.at1.cellOf 3 rfl
    have p4_ : w4.cell? ⟨p, 4, none⟩ = some (.slice A2 n2 c2) := K4.out.at1.cellOf 4 rfl
    have p5_ : w4.cell? ⟨p, 5, none⟩ = some (.slice A3 n3 c3) := K4.out.at1.cellOf 5 rfl
    go_wp2_with fail
    refine (T2.out w4 W _ K4.out (fun w' h => r10.out.old h.tail.tail) (fun w' h => r20.out.old h.tail.tail) (fun w' h => r30.out.old h.tail.tail)).mono ?_
    rintro e w5 ⟨A5, c5, rfl, K5⟩
    rw [hnl.out] at K5 ⊢
    replace K5 := Lib.hid K5
    clear K4 T2 p0_ p1_ p2_ p3_ p4_ p5_
    go_wp2_with fail
    refine (eqsame12 _ _ L w5 W _ K5.out K5.out.at1.ls_rd K5.out.ls_rd).mono ?_
    rintro e w6 ⟨rfl, K6⟩
    replace K6 := Lib.hid K6
    clear K5
    rcases hEb with rfl | ⟨e1, e2⟩
    · go_wp2_with fail
      refine (T3.out (by first | trivial | rfl) (.slice A4 nl c4) w6 W _ K6.out (fun w' h => h.at1.ls_rd)).mono ?_
      rintro e w7 ⟨B1, d1, B2, d2, B3, d3, rfl, K7⟩
      dsimp only at K7 ⊢
      rw [← l1.out, ← l2.out, ← l3.out] at K7 ⊢
      have K8 := Lib.hid (K7.alloc (.cells #[.int .i64 tk, .int .i64 of, .int .i64 mk, .slice B1 n1 d1, .slice B2 n2 d2, .slice B3 n3 d3] 55))
      clear K6 K7 T3
      go_upto_region 12 with (fail)
      generalize World.alloc _ _ = w8 at K8 ⊢
      generalize w7.heap.size = q at K8 ⊢
      have p0_ : w8.cell? ⟨p, 0, none⟩ = some (.int .i64 tk) := K8.out.at6.cellOf 0 rfl
      have p1_ : w8.cell? ⟨p, 1, none⟩ = some (.int .i64 of) := K8.out.at6.cellOf 1 rfl
      have p2_ : w8.cell? ⟨p, 2, none⟩ = some (.int .i64 mk) := K8.out.at6.cellOf 2 rfl
      have p3_ : w8.cell? ⟨p, 3, none⟩ = some (.slice A1 n1 c1) := K8.out.at6.cellOf 3 rfl
      have p4_ : w8.cell? ⟨p, 4, none⟩ = some (.slice A2 n2 c2) := K8.out.at6.cellOf 4 rfl
      have p5_ : w8.cell? ⟨p, 5, none⟩ = some (.slice A3 n3 c3) := K8.out.at6.cellOf 5 rfl
      have q0_ : w8.cell? ⟨q, 0, none⟩ = some (.int .i64 tk) := K8.out.cellOf 0 rfl
      have q1_ : w8.cell? ⟨q, 1, none⟩ = some (.int .i64 of) := K8.out.cellOf 1 rfl
      have q2_ : w8.cell? ⟨q, 2, none⟩ = some (.int .i64 mk) := K8.out.cellOf 2 rfl
      have q3_ : w8.cell? ⟨q, 3, none⟩ = some (.slice B1 n1 d1) := K8.out.cellOf 3 rfl
      have q4_ : w8.cell? ⟨q, 4, none⟩ = some (.slice B2 n2 d2) := K8.out.cellOf 4 rfl
      have q5_ : w8.cell? ⟨q, 5, none⟩ = some (.slice B3 n3 d3) := K8.out.cellOf 5 rfl
      go_wp2_with fail
      refine (sames28 tk of mk B1 B2 B3 A1 A2 A3 n1 d1 n2 d2 n3 d3 c1 c2 c3 ms ps os w8 W _ K8.out (fun w' h => h.at3.ls_rd) (fun w' h => h.at2.ls_rd) (fun w' h => h.at1.ls_rd) (fun w' h => r10.out.old h.tail.tail.tail.tail.tail.tail.tail) (fun w' h => r20.out.old h.tail.tail.tail.tail.tail.tail.tail) (fun w' h => r30.out.old h.tail.tail.tail.tail.tail.tail.tail)).mono ?_
      rintro e w9 ⟨rfl, K9⟩
      replace K9 := Lib.hid K9
      go_wp2_with fail
      go_ret
      exact ⟨rfl, K9.out.tail.tail.tail.tail.tail.tail.tail.under_old⟩
    · clear T3
      go_wp2_with fail
      go_ret
      exact ⟨rfl, K6.out.tail.tail.tail.under_old⟩
def snc (r : Int × Int × Int × Slc × Slc × Slc) : Array Value := #[.int .i64 r.1, .int .i64 r.2.1, .int .i64 r.2.2.1, .slice r.2.2.2.1.1 r.2.2.2.1.2.1 r.2.2.2.1.2.2, .slice r.2.2.2.2.1.1 r.2.2.2.2.1.2.1 r.2.2.2.2.1.2.2, .slice r.2.2.2.2.2.1 r.2.2.2.2.2.2.1 r.2.2.2.2.2.2.2]
def SnapIs (W : World) (r : Int × Int × Int × Slc × Slc × Slc) : Prop := I64 r.2.2.1 ∧ (∃ ms, RdL (Enc.num .i64) W (.slice r.2.2.2.1.1 r.2.2.2.1.2.1 r.2.2.2.1.2.2) ms ∧ ∀ x ∈ ms, I64 x) ∧ (∃ ps, RdL ((Enc.num .i64).pair (((Enc.num .i64).pair (Enc.num .i64)).pair (Enc.num .i64))) W (.slice r.2.2.2.2.1.1 r.2.2.2.2.1.2.1 r.2.2.2.2.1.2.2) ps ∧ ∀ x ∈ ps, PnOk x) ∧ (∃ os, RdL ((Enc.num .i64).pair ((Enc.num .i64).pair (((Enc.num .i64).pair ((Enc.num .i64).pair (Enc.num .i64))).pair ((Enc.num .i64).pair ((Enc.num .u64).pair Enc.flag))))) W (.slice r.2.2.2.2.2.1 r.2.2.2.2.2.2.1 r.2.2.2.2.2.2.2) os ∧ ∀ x ∈ os, FrWf x.2)
theorem codecsnap_walk2 (r : Int × Int × Int × Slc × Slc × Slc) (W : World) (h : SnapIs W r) :
    Calls Try.prog 7 #[.agg (snc r)] W fun e w' => e = .returned (.bool true) ∧ Below W.heap.size W w' := by
  obtain ⟨hm, ⟨ms, r1, k1⟩, ⟨ps, r2, k2⟩, ⟨os, r3, k3⟩⟩ := h
  exact codecsnap_walk _ _ _ _ _ _ _ _ _ _ _ _ ms ps os W hm r1 r2 r3 k1 k2 k3
theorem i64_of2 {x : Int} (h : (Lit.int .i64 x).wf = true) : I64 x := by
  simp [Lit.wf, IntKind.min, IntKind.max, IntKind.signed, IntKind.bits] at h
  exact ⟨by omega, by omega⟩
theorem u64_of2 {x : Int} (h : (Lit.int .u64 x).wf = true) : U64 x := by
  simp [Lit.wf, IntKind.min, IntKind.max, IntKind.signed, IntKind.bits] at h
  exact ⟨by omega, by omega⟩
theorem frwf_of2 {f : Fr} (h : (Lit.int .i64 f.1).wf = true ∧ ((Lit.int .i64 f.2.1.1).wf = true ∧ (Lit.int .i64 f.2.1.2.1).wf = true ∧ (Lit.int .i64 f.2.1.2.2).wf = true) ∧ (Lit.int .i64 f.2.2.1).wf = true ∧ (Lit.int .u64 f.2.2.2.1).wf = true ∧ True) : FrWf f := by
  obtain ⟨_, ⟨h1, h2, h3⟩, h4, h5, _⟩ := h
  exact ⟨⟨i64_of2 h1, i64_of2 h2, i64_of2 h3⟩, i64_of2 h4, u64_of2 h5⟩
section
variable {W : World}
theorem opnR_mono2 {P : Program} {α : Type} {e : TypeId} {E : Enc α} {ok ok2 : α → Prop} (h : OpnR P W e E ok) (h2 : ∀ a, ok a → ok2 a) : OpnR P W e E ok2 := fun H enc base spare held fuel cs x hx hw => by
  obtain ⟨a, ha, hok⟩ := h H enc base spare held fuel cs x hx hw
  exact ⟨a, ha, h2 a hok⟩
theorem open_mk : OpnR Try.prog W 2 (Enc.num .i64) I64 := opnR_mono2 (OpnR.of (opn_int Try.underlying2)) fun a h => i64_of2 h
theorem open_pn : OpnR Try.prog W 106 ((Enc.num .i64).pair (((Enc.num .i64).pair (Enc.num .i64)).pair (Enc.num .i64))) PnOk := opnR_mono2 (OpnR.of (opn_struct (fs := _) Try.underlying106 (by kernel_rfl) (opnFs_cons rfl (by kernel_rfl) (opn_int Try.underlying2) (opnFs_cons rfl (by kernel_rfl) (opn_struct (fs := _) Try.underlying104 (by kernel_rfl) (opnFs_cons rfl (by kernel_rfl) (opn_int Try.underlying2) (opnFs_one rfl (by kernel_rfl) (opn_int Try.underlying2)))) (opnFs_one rfl (by kernel_rfl) (opn_int Try.underlying2)))))) fun a h => ⟨i64_of2 h.1, ⟨i64_of2 h.2.1.1, i64_of2 h.2.1.2⟩, i64_of2 h.2.2⟩
theorem open_ot : OpnR Try.prog W 97 ((Enc.num .i64).pair ((Enc.num .i64).pair (((Enc.num .i64).pair ((Enc.num .i64).pair (Enc.num .i64))).pair ((Enc.num .i64).pair ((Enc.num .u64).pair Enc.flag))))) (fun x => FrWf x.2) := opnR_mono2 (OpnR.of (opn_struct (fs := _) Try.underlying97 (by kernel_rfl) (opnFs_cons rfl (by kernel_rfl) (opn_int Try.underlying3) (opnFs_one rfl (by kernel_rfl) (opn_struct (fs := _) Try.underlying37 (by kernel_rfl) (opnFs_cons rfl (by kernel_rfl) (opn_int Try.underlying3) (opnFs_cons rfl (by kernel_rfl) (opn_struct (fs := _) Try.underlying34 (by kernel_rfl) (opnFs_cons rfl (by kernel_rfl) (opn_int Try.underlying2) (opnFs_cons rfl (by kernel_rfl) (opn_int Try.underlying2) (opnFs_one rfl (by kernel_rfl) (opn_int Try.underlying2))))) (opnFs_cons rfl (by kernel_rfl) (opn_int Try.underlying2) (opnFs_cons rfl (by kernel_rfl) (opn_int Try.underlying35) (opnFs_one rfl (by kernel_rfl) (opn_flag Try.underlying4))))))))))) fun a h => frwf_of2 h.2
abbrev ES : Enc (Int × Int × Int × Slc × Slc × Slc) := (Enc.num .i64).pair ((Enc.num .i64).pair ((Enc.num .i64).pair (Enc.slc.pair (Enc.slc.pair Enc.slc))))
theorem open_snap : OpnR Try.prog W 55 ES (SnapIs W) :=
  opnR_mono2 (opnR_struct (fs := _) Try.underlying55 (by kernel_rfl)
    (opnFsR_cons rfl (by kernel_rfl) (OpnR.of (opn_int Try.underlying3)) (opnFsR_cons rfl (by kernel_rfl) (OpnR.of (opn_int Try.underlying3)) (opnFsR_cons rfl (by kernel_rfl) (OpnR.of (opn_int Try.underlying2))
      (opnFsR_cons rfl (by kernel_rfl) (opnR_slc Try.underlying51 (by kernel_rfl) (by decide) open_mk) (opnFsR_cons rfl (by kernel_rfl) (opnR_slc Try.underlying52 (by kernel_rfl) (by decide) open_pn) (opnFsR_one rfl (by kernel_rfl) (opnR_slc Try.underlying53 (by kernel_rfl) (by decide) open_ot))))))))
    (fun a h => ⟨i64_of2 h.2.2.1, h.2.2.2.1.2, h.2.2.2.2.1.2, h.2.2.2.2.2.2⟩)
end
end Go.Proofs.Ytjdkpogkhecijaa

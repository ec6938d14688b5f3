import Derived.Test.YtjdkpogkhecijaaUe
import Derived.IntWalk
import Derived.Test.YtjdkpogkhecijaaProg
import Derived.Test.YtjdkpogkhecijaaLs
import Derived.Outline
import Derived.StillTailTactics
import Derived.Deep.DeepCutAuto
import Derived.Deep.CutBlock
import Derived.Deep.LoopGhost
import Derived.Deep.QuietTactic
import Derived.BigQuiet
import Derived.Deep.RegionHeld3
import Derived.Deep.RegionLaw
set_option linter.unusedVariables false
set_option linter.unusedSimpArgs false
namespace Go.Proofs.Ytjdkpogkhecijaa
open Go.RowKit
set_option maxRecDepth 100000 in
set_option maxHeartbeats 1600000 in
theorem same56 (A1 A2 : Option Addr) (N c1 c2 : Nat) (l : List (Int)) (w w0 : World) (R : List HP) (H : Hs w0 w R) (h1 : ∀ w', Hs w0 w' R → RdL (Enc.num .i64) w' (.slice A1 N c1) l) (h2 : ∀ w', Hs w0 w' R → RdL (Enc.num .i64) w' (.slice A2 N c2) l) :
    Calls Try.prog 56 #[.slice A1 N c1, .slice A2 N c2] w fun e w' => e = .returned (.bool true) ∧ Hs w0 w' R := by
  have hN := (h1 w H).caps.1
  have hcap1 := (h1 w H).caps.2
  have hcap2 := (h2 w H).caps.2
  have K := Lib.hid H
  have h10 := Lib.hid h1
  have h20 := Lib.hid h2
  replace hN := Lib.hid hN
  clear H h1 h2
  go_enter Try.func56, Try.ntmps56
  go_wp2_with fail
  go_loopg [5] N (fun g iv wr => ∃ i : Nat, g + i = N ∧ iv = .int .i64 i ∧ Hid (Hs w0 wr R))
  case atStart => exact ⟨0, rfl, rfl, K⟩
  case round =>
    clear K
    obtain ⟨i, hg, rfl, K⟩ := hrel
    have hiN : i ≤ N := by omega
    replace hg := Lib.hid hg
    rcases Nat.lt_or_ge i N with hlt | hlt
    · have hi0 : (0 : Int) ≤ (i : Int) := by omega
      have hi1 : (i : Int) < (N : Int) := by omega
      have hwi : IntKind.i64.wrap ((i : Int) + 1) = ((i + 1 : Nat) : Int) := by rw [IntWalk.i64_in _ (by omega)]; omega
      obtain ⟨x, hx⟩ : ∃ x, l[i]? = some x := ⟨_, List.getElem?_eq_getElem (by have := hN.out; omega)⟩
      obtain ⟨g1, o1, rfl⟩ := (h10.out wr K.out).some_ (by have := hN.out; omega)
      obtain ⟨g2, o2, rfl⟩ := (h20.out wr K.out).some_ (by have := hN.out; omega)
      have s0 : wr.cell? ⟨g1, o1 + i * 1 + 0, none⟩ = some (.int .i64 x) := (h10.out wr K.out).cell hx 0 rfl
      have t0 : wr.cell? ⟨g2, o2 + i * 1 + 0, none⟩ = some (.int .i64 x) := (h20.out wr K.out).cell hx 0 rfl
      simp only [Nat.add_zero, Nat.mul_one] at s0 t0
      replace hx := Lib.hid hx
      go_wp2_with fail
      go_quiet (fail)
      go_wp2_with fail
      go_roundg (N - (i + 1))
      case measure => have := hg.out; omega
      case rel => exact ⟨i + 1, by have := hg.out; omega, by go_num, Lib.hid (K.out.drewN nq)⟩
    · have hi1 : decide ((i : Int) < (N : Int)) = false := by rw [decide_eq_false_iff_not]; omega
      have hi2 : decide (i < N) = false := by rw [decide_eq_false_iff_not]; omega
      clear hlt
      go_wp2_with fail
      go_ret
      exact ⟨rfl, K.out⟩
set_option maxRecDepth 100000 in
set_option maxHeartbeats 1600000 in
theorem same57 (A1 A2 : Option Addr) (N c1 c2 : Nat) (l : List (Pn4)) (w w0 : World) (R : List HP) (H : Hs w0 w R) (h1 : ∀ w', Hs w0 w' R → RdL ((Enc.num .i64).pair (((Enc.num .i64).pair (Enc.num .i64)).pair (Enc.num .i64))) w' (.slice A1 N c1) l) (h2 : ∀ w', Hs w0 w' R → RdL ((Enc.num .i64).pair (((Enc.num .i64).pair (Enc.num .i64)).pair (Enc.num .i64))) w' (.slice A2 N c2) l) :
    Calls Try.prog 57 #[.slice A1 N c1, .slice A2 N c2] w fun e w' => e = .returned (.bool true) ∧ Hs w0 w' R := by
  have hN := (h1 w H).caps.1
  have hcap1 := (h1 w H).caps.2
  have hcap2 := (h2 w H).caps.2
  have K := Lib.hid H
  have h10 := Lib.hid h1
  have h20 := Lib.hid h2
  replace hN := Lib.hid hN
  clear H h1 h2
  go_enter Try.func57, Try.ntmps57
  go_wp2_with fail
  go_loopg [5] N (fun g iv wr => ∃ i : Nat, g + i = N ∧ iv = .int .i64 i ∧ Hid (Hs w0 wr R))
  case atStart => exact ⟨0, rfl, rfl, K⟩
  case round =>
    clear K
    obtain ⟨i, hg, rfl, K⟩ := hrel
    have hiN : i ≤ N := by omega
    replace hg := Lib.hid hg
    rcases Nat.lt_or_ge i N with hlt | hlt
    · have hi0 : (0 : Int) ≤ (i : Int) := by omega
      have hi1 : (i : Int) < (N : Int) := by omega
      have hwi : IntKind.i64.wrap ((i : Int) + 1) = ((i + 1 : Nat) : Int) := by rw [IntWalk.i64_in _ (by omega)]; omega
      obtain ⟨x, hx⟩ : ∃ x, l[i]? = some x := ⟨_, List.getElem?_eq_getElem (by have := hN.out; omega)⟩
      obtain ⟨g1, o1, rfl⟩ := (h10.out wr K.out).some_ (by have := hN.out; omega)
      obtain ⟨g2, o2, rfl⟩ := (h20.out wr K.out).some_ (by have := hN.out; omega)
      obtain ⟨k, ⟨f, t⟩, a⟩ := x
      have s0 : wr.cell? ⟨g1, o1 + i * 4 + 0, none⟩ = some (.int .i64 k) := (h10.out wr K.out).cell hx 0 rfl
      have t0 : wr.cell? ⟨g2, o2 + i * 4 + 0, none⟩ = some (.int .i64 k) := (h20.out wr K.out).cell hx 0 rfl
      have s1 : wr.cell? ⟨g1, o1 + i * 4 + 1, none⟩ = some (.int .i64 f) := (h10.out wr K.out).cell hx 1 rfl
      have t1 : wr.cell? ⟨g2, o2 + i * 4 + 1, none⟩ = some (.int .i64 f) := (h20.out wr K.out).cell hx 1 rfl
      have s2 : wr.cell? ⟨g1, o1 + i * 4 + 2, none⟩ = some (.int .i64 t) := (h10.out wr K.out).cell hx 2 rfl
      have t2 : wr.cell? ⟨g2, o2 + i * 4 + 2, none⟩ = some (.int .i64 t) := (h20.out wr K.out).cell hx 2 rfl
      have s3 : wr.cell? ⟨g1, o1 + i * 4 + 3, none⟩ = some (.int .i64 a) := (h10.out wr K.out).cell hx 3 rfl
      have t3 : wr.cell? ⟨g2, o2 + i * 4 + 3, none⟩ = some (.int .i64 a) := (h20.out wr K.out).cell hx 3 rfl
      simp only [Nat.add_zero] at s0 t0
      replace hx := Lib.hid hx
      go_wp2_with fail
      go_quiet (fail)
      go_wp2_with fail
      go_roundg (N - (i + 1))
      case measure => have := hg.out; omega
      case rel => exact ⟨i + 1, by have := hg.out; omega, by go_num, Lib.hid (K.out.drewN nq)⟩
    · have hi1 : decide ((i : Int) < (N : Int)) = false := by rw [decide_eq_false_iff_not]; omega
      have hi2 : decide (i < N) = false := by rw [decide_eq_false_iff_not]; omega
      clear hlt
      go_wp2_with fail
      go_ret
      exact ⟨rfl, K.out⟩
set_option maxRecDepth 100000 in
set_option maxHeartbeats 1600000 in
theorem same58 (A1 A2 : Option Addr) (N c1 c2 : Nat) (l : List (Ot)) (w w0 : World) (R : List HP) (H : Hs w0 w R) (h1 : ∀ w', Hs w0 w' R → RdL ((Enc.num .i64).pair ((Enc.num .i64).pair (((Enc.num .i64).pair ((Enc.num .i64).pair (Enc.num .i64))).pair ((Enc.num .i64).pair ((Enc.num .u64).pair Enc.flag))))) w' (.slice A1 N c1) l) (h2 : ∀ w', Hs w0 w' R → RdL ((Enc.num .i64).pair ((Enc.num .i64).pair (((Enc.num .i64).pair ((Enc.num .i64).pair (Enc.num .i64))).pair ((Enc.num .i64).pair ((Enc.num .u64).pair Enc.flag))))) w' (.slice A2 N c2) l) :
    Calls Try.prog 58 #[.slice A1 N c1, .slice A2 N c2] w fun e w' => e = .returned (.bool true) ∧ Hs w0 w' R := by
  have hN := (h1 w H).caps.1
  have hcap1 := (h1 w H).caps.2
  have hcap2 := (h2 w H).caps.2
  have K := Lib.hid H
  have h10 := Lib.hid h1
  have h20 := Lib.hid h2
  replace hN := Lib.hid hN
  clear H h1 h2
  go_enter Try.func58, Try.ntmps58
  go_wp2_with fail
  go_loopg [5] N (fun g iv wr => ∃ i : Nat, g + i = N ∧ iv = .int .i64 i ∧ Hid (Hs w0 wr R))
  case atStart => exact ⟨0, rfl, rfl, K⟩
  case round =>
    clear K
    obtain ⟨i, hg, rfl, K⟩ := hrel
    have hiN : i ≤ N := by omega
    replace hg := Lib.hid hg
    rcases Nat.lt_or_ge i N with hlt | hlt
    · have hi0 : (0 : Int) ≤ (i : Int) := by omega
      have hi1 : (i : Int) < (N : Int) := by omega
      have hwi : IntKind.i64.wrap ((i : Int) + 1) = ((i + 1 : Nat) : Int) := by rw [IntWalk.i64_in _ (by omega)]; omega
      obtain ⟨x, hx⟩ : ∃ x, l[i]? = some x := ⟨_, List.getElem?_eq_getElem (by have := hN.out; omega)⟩
      obtain ⟨g1, o1, rfl⟩ := (h10.out wr K.out).some_ (by have := hN.out; omega)
      obtain ⟨g2, o2, rfl⟩ := (h20.out wr K.out).some_ (by have := hN.out; omega)
      obtain ⟨ch, k, ⟨r1, r2, r3⟩, mk, nn, o⟩ := x
      have s0 : wr.cell? ⟨g1, o1 + i * 8 + 0, none⟩ = some (.int .i64 ch) := (h10.out wr K.out).cell hx 0 rfl
      have t0 : wr.cell? ⟨g2, o2 + i * 8 + 0, none⟩ = some (.int .i64 ch) := (h20.out wr K.out).cell hx 0 rfl
      have s1 : wr.cell? ⟨g1, o1 + i * 8 + 1, none⟩ = some (.int .i64 k) := (h10.out wr K.out).cell hx 1 rfl
      have t1 : wr.cell? ⟨g2, o2 + i * 8 + 1, none⟩ = some (.int .i64 k) := (h20.out wr K.out).cell hx 1 rfl
      have s2 : wr.cell? ⟨g1, o1 + i * 8 + 2, none⟩ = some (.int .i64 r1) := (h10.out wr K.out).cell hx 2 rfl
      have t2 : wr.cell? ⟨g2, o2 + i * 8 + 2, none⟩ = some (.int .i64 r1) := (h20.out wr K.out).cell hx 2 rfl
      have s3 : wr.cell? ⟨g1, o1 + i * 8 + 3, none⟩ = some (.int .i64 r2) := (h10.out wr K.out).cell hx 3 rfl
      have t3 : wr.cell? ⟨g2, o2 + i * 8 + 3, none⟩ = some (.int .i64 r2) := (h20.out wr K.out).cell hx 3 rfl
      have s4 : wr.cell? ⟨g1, o1 + i * 8 + 4, none⟩ = some (.int .i64 r3) := (h10.out wr K.out).cell hx 4 rfl
      have t4 : wr.cell? ⟨g2, o2 + i * 8 + 4, none⟩ = some (.int .i64 r3) := (h20.out wr K.out).cell hx 4 rfl
      have s5 : wr.cell? ⟨g1, o1 + i * 8 + 5, none⟩ = some (.int .i64 mk) := (h10.out wr K.out).cell hx 5 rfl
      have t5 : wr.cell? ⟨g2, o2 + i * 8 + 5, none⟩ = some (.int .i64 mk) := (h20.out wr K.out).cell hx 5 rfl
      have s6 : wr.cell? ⟨g1, o1 + i * 8 + 6, none⟩ = some (.int .u64 nn) := (h10.out wr K.out).cell hx 6 rfl
      have t6 : wr.cell? ⟨g2, o2 + i * 8 + 6, none⟩ = some (.int .u64 nn) := (h20.out wr K.out).cell hx 6 rfl
      have s7 : wr.cell? ⟨g1, o1 + i * 8 + 7, none⟩ = some (.bool o) := (h10.out wr K.out).cell hx 7 rfl
      have t7 : wr.cell? ⟨g2, o2 + i * 8 + 7, none⟩ = some (.bool o) := (h20.out wr K.out).cell hx 7 rfl
      simp only [Nat.add_zero] at s0 t0
      replace hx := Lib.hid hx
      go_wp2_with fail
      go_quiet (fail)
      go_wp2_with fail
      go_roundg (N - (i + 1))
      case measure => have := hg.out; omega
      case rel => exact ⟨i + 1, by have := hg.out; omega, by go_num, Lib.hid (K.out.drewN nq)⟩
    · have hi1 : decide ((i : Int) < (N : Int)) = false := by rw [decide_eq_false_iff_not]; omega
      have hi2 : decide (i < N) = false := by rw [decide_eq_false_iff_not]; omega
      clear hlt
      go_wp2_with fail
      go_ret
      exact ⟨rfl, K.out⟩
set_option maxRecDepth 100000 in
set_option maxHeartbeats 4000000 in
theorem sames28 (tk of mk : Int) (A1 A2 A3 B1 B2 B3 : Option Addr) (n1 c1 n2 c2 n3 c3 d1 d2 d3 : Nat) (ms : List Int) (ps : List Pn4) (os : List Ot) (w w0 : World) (R : List HP) (H : Hs w0 w R)
    (h1 : ∀ w', Hs w0 w' R → RdL (Enc.num .i64) w' (.slice A1 n1 c1) ms) (h2 : ∀ w', Hs w0 w' R → RdL ((Enc.num .i64).pair (((Enc.num .i64).pair (Enc.num .i64)).pair (Enc.num .i64))) w' (.slice A2 n2 c2) ps) (h3 : ∀ w', Hs w0 w' R → RdL ((Enc.num .i64).pair ((Enc.num .i64).pair (((Enc.num .i64).pair ((Enc.num .i64).pair (Enc.num .i64))).pair ((Enc.num .i64).pair ((Enc.num .u64).pair Enc.flag))))) w' (.slice A3 n3 c3) os)
    (k1 : ∀ w', Hs w0 w' R → RdL (Enc.num .i64) w' (.slice B1 n1 d1) ms) (k2 : ∀ w', Hs w0 w' R → RdL ((Enc.num .i64).pair (((Enc.num .i64).pair (Enc.num .i64)).pair (Enc.num .i64))) w' (.slice B2 n2 d2) ps) (k3 : ∀ w', Hs w0 w' R → RdL ((Enc.num .i64).pair ((Enc.num .i64).pair (((Enc.num .i64).pair ((Enc.num .i64).pair (Enc.num .i64))).pair ((Enc.num .i64).pair ((Enc.num .u64).pair Enc.flag))))) w' (.slice B3 n3 d3) os) :
    Calls Try.prog 28 #[.agg #[.int .i64 tk, .int .i64 of, .int .i64 mk, .slice A1 n1 c1, .slice A2 n2 c2, .slice A3 n3 c3], .agg #[.int .i64 tk, .int .i64 of, .int .i64 mk, .slice B1 n1 d1, .slice B2 n2 d2, .slice B3 n3 d3]] w fun e w' => e = .returned (.bool true) ∧ Hs w0 w' R := by
  have K := ((H.alloc (.cells #[.int .i64 tk, .int .i64 of, .int .i64 mk, .slice A1 n1 c1, .slice A2 n2 c2, .slice A3 n3 c3] 55)).alloc (.cells #[.int .i64 tk, .int .i64 of, .int .i64 mk, .slice B1 n1 d1, .slice B2 n2 d2, .slice B3 n3 d3] 55))
  rw [show (w.alloc (.cells #[.int .i64 tk, .int .i64 of, .int .i64 mk, .slice A1 n1 c1, .slice A2 n2 c2, .slice A3 n3 c3] 55)).heap.size = w.heap.size + 1 from Array.size_push ..] at K
  have h10 := Lib.hid h1
  have k10 := Lib.hid k1
  have h20 := Lib.hid h2
  have k20 := Lib.hid k2
  have h30 := Lib.hid h3
  have k30 := Lib.hid k3
  replace K := Lib.hid K
  clear H h1 h2 h3 k1 k2 k3
  go_enter Try.func28, Try.ntmps28
  go_upto_region 1 with (fail)
  generalize World.alloc _ _ = w1 at K ⊢
  generalize w.heap.size + 1 = p at K ⊢
  generalize w.heap.size = q at K ⊢
  have p0_ : w1.cell? ⟨p, 0, none⟩ = some (.int .i64 tk) := K.out.cellOf 0 rfl
  have p1_ : w1.cell? ⟨p, 1, none⟩ = some (.int .i64 of) := K.out.cellOf 1 rfl
  have p2_ : w1.cell? ⟨p, 2, none⟩ = some (.int .i64 mk) := K.out.cellOf 2 rfl
  have p3_ : w1.cell? ⟨p, 3, none⟩ = some (.slice B1 n1 d1) := K.out.cellOf 3 rfl
  have p4_ : w1.cell? ⟨p, 4, none⟩ = some (.slice B2 n2 d2) := K.out.cellOf 4 rfl
  have p5_ : w1.cell? ⟨p, 5, none⟩ = some (.slice B3 n3 d3) := K.out.cellOf 5 rfl
  have q0_ : w1.cell? ⟨q, 0, none⟩ = some (.int .i64 tk) := K.out.at1.cellOf 0 rfl
  have q1_ : w1.cell? ⟨q, 1, none⟩ = some (.int .i64 of) := K.out.at1.cellOf 1 rfl
  have q2_ : w1.cell? ⟨q, 2, none⟩ = some (.int .i64 mk) := K.out.at1.cellOf 2 rfl
  have q3_ : w1.cell? ⟨q, 3, none⟩ = some (.slice A1 n1 c1) := K.out.at1.cellOf 3 rfl
  have q4_ : w1.cell? ⟨q, 4, none⟩ = some (.slice A2 n2 c2) := K.out.at1.cellOf 4 rfl
  have q5_ : w1.cell? ⟨q, 5, none⟩ = some (.slice A3 n3 c3) := K.out.at1.cellOf 5 rfl
  go_wp2_with fail
  refine (same56 A1 B1 n1 c1 d1 ms w1 w0 _ K.out (fun w' h => h10.out w' h.tail.tail) (fun w' h => k10.out w' h.tail.tail)).mono ?_
  rintro e x1 ⟨rfl, KE1⟩
  clear p0_ p1_ p2_ p3_ p4_ p5_ q0_ q1_ q2_ q3_ q4_ q5_
  have p0_ : x1.cell? ⟨p, 0, none⟩ = some (.int .i64 tk) := KE1.cellOf 0 rfl
  have p1_ : x1.cell? ⟨p, 1, none⟩ = some (.int .i64 of) := KE1.cellOf 1 rfl
  have p2_ : x1.cell? ⟨p, 2, none⟩ = some (.int .i64 mk) := KE1.cellOf 2 rfl
  have p3_ : x1.cell? ⟨p, 3, none⟩ = some (.slice B1 n1 d1) := KE1.cellOf 3 rfl
  have p4_ : x1.cell? ⟨p, 4, none⟩ = some (.slice B2 n2 d2) := KE1.cellOf 4 rfl
  have p5_ : x1.cell? ⟨p, 5, none⟩ = some (.slice B3 n3 d3) := KE1.cellOf 5 rfl
  have q0_ : x1.cell? ⟨q, 0, none⟩ = some (.int .i64 tk) := KE1.at1.cellOf 0 rfl
  have q1_ : x1.cell? ⟨q, 1, none⟩ = some (.int .i64 of) := KE1.at1.cellOf 1 rfl
  have q2_ : x1.cell? ⟨q, 2, none⟩ = some (.int .i64 mk) := KE1.at1.cellOf 2 rfl
  have q3_ : x1.cell? ⟨q, 3, none⟩ = some (.slice A1 n1 c1) := KE1.at1.cellOf 3 rfl
  have q4_ : x1.cell? ⟨q, 4, none⟩ = some (.slice A2 n2 c2) := KE1.at1.cellOf 4 rfl
  have q5_ : x1.cell? ⟨q, 5, none⟩ = some (.slice A3 n3 c3) := KE1.at1.cellOf 5 rfl
  replace KE1 := Lib.hid KE1
  clear K
  go_wp2_with fail
  refine (same57 A2 B2 n2 c2 d2 ps x1 w0 _ KE1.out (fun w' h => h20.out w' h.tail.tail) (fun w' h => k20.out w' h.tail.tail)).mono ?_
  rintro e x2 ⟨rfl, KE2⟩
  clear p0_ p1_ p2_ p3_ p4_ p5_ q0_ q1_ q2_ q3_ q4_ q5_
  have p0_ : x2.cell? ⟨p, 0, none⟩ = some (.int .i64 tk) := KE2.cellOf 0 rfl
  have p1_ : x2.cell? ⟨p, 1, none⟩ = some (.int .i64 of) := KE2.cellOf 1 rfl
  have p2_ : x2.cell? ⟨p, 2, none⟩ = some (.int .i64 mk) := KE2.cellOf 2 rfl
  have p3_ : x2.cell? ⟨p, 3, none⟩ = some (.slice B1 n1 d1) := KE2.cellOf 3 rfl
  have p4_ : x2.cell? ⟨p, 4, none⟩ = some (.slice B2 n2 d2) := KE2.cellOf 4 rfl
  have p5_ : x2.cell? ⟨p, 5, none⟩ = some (.slice B3 n3 d3) := KE2.cellOf 5 rfl
  have q0_ : x2.cell? ⟨q, 0, none⟩ = some (.int .i64 tk) := KE2.at1.cellOf 0 rfl
  have q1_ : x2.cell? ⟨q, 1, none⟩ = some (.int .i64 of) := KE2.at1.cellOf 1 rfl
  have q2_ : x2.cell? ⟨q, 2, none⟩ = some (.int .i64 mk) := KE2.at1.cellOf 2 rfl
  have q3_ : x2.cell? ⟨q, 3, none⟩ = some (.slice A1 n1 c1) := KE2.at1.cellOf 3 rfl
  have q4_ : x2.cell? ⟨q, 4, none⟩ = some (.slice A2 n2 c2) := KE2.at1.cellOf 4 rfl
  have q5_ : x2.cell? ⟨q, 5, none⟩ = some (.slice A3 n3 c3) := KE2.at1.cellOf 5 rfl
  replace KE2 := Lib.hid KE2
  clear KE1
  go_wp2_with fail
  refine (same58 A3 B3 n3 c3 d3 os x2 w0 _ KE2.out (fun w' h => h30.out w' h.tail.tail) (fun w' h => k30.out w' h.tail.tail)).mono ?_
  rintro e x3 ⟨rfl, KE3⟩
  replace KE3 := Lib.hid KE3
  clear KE2
  go_wp2_with fail
  go_ret
  exact ⟨rfl, KE3.out.tail.tail⟩
set_option maxRecDepth 100000 in
set_option maxHeartbeats 4000000 in
theorem light25 (tk of mk : Int) (A1 A2 A3 : Option Addr) (n1 c1 n2 c2 n3 c3 : Nat) (w w0 : World) (R : List HP) (H : Hs w0 w R) :
    Calls Try.prog 25 #[.agg #[.int .i64 tk, .int .i64 of, .int .i64 mk, .slice A1 n1 c1, .slice A2 n2 c2, .slice A3 n3 c3]] w fun e w' => ∃ b, e = .returned (.bool b) ∧ Hs w0 w' R := by
  have K := Lib.hid (H.alloc (.cells #[.int .i64 tk, .int .i64 of, .int .i64 mk, .slice A1 n1 c1, .slice A2 n2 c2, .slice A3 n3 c3] 55))
  clear H
  rcases (by omega : n1 ≤ 300 ∨ 300 < n1) with gn1 | gn1
  · rcases (by omega : n2 ≤ 300 ∨ 300 < n2 ∧ n2 ≤ 4096 ∨ 4096 < n2 ∧ n2 < 4105 ∨ 4105 ≤ n2) with gn2 | gn2 | gn2 | gn2
    · rcases (by omega : n3 ≤ 300 ∨ 300 < n3 ∧ n3 ≤ 4096 ∨ 4096 < n3 ∧ n3 < 4105 ∨ 4105 ≤ n3) with gn3 | gn3 | gn3 | gn3
      · have an1i : decide ((n1 : Int) ≤ (300 : Int)) = true := by rw [decide_eq_true_eq]; omega
        have an1n : decide (n1 ≤ 300) = true := by rw [decide_eq_true_eq]; omega
        have an2i : decide ((n2 : Int) ≤ (300 : Int)) = true := by rw [decide_eq_true_eq]; omega
        have an2n : decide (n2 ≤ 300) = true := by rw [decide_eq_true_eq]; omega
        have an3i : decide ((n3 : Int) ≤ (300 : Int)) = true := by rw [decide_eq_true_eq]; omega
        have an3n : decide (n3 ≤ 300) = true := by rw [decide_eq_true_eq]; omega
        go_enter Try.func25, Try.ntmps25
        go_upto_region 1 with (fail)
        generalize World.alloc _ _ = w1 at K ⊢
        generalize w.heap.size = p at K ⊢
        have p0_ : w1.cell? ⟨p, 0, none⟩ = some (.int .i64 tk) := K.out.cellOf 0 rfl
        have p1_ : w1.cell? ⟨p, 1, none⟩ = some (.int .i64 of) := K.out.cellOf 1 rfl
        have p2_ : w1.cell? ⟨p, 2, none⟩ = some (.int .i64 mk) := K.out.cellOf 2 rfl
        have p3_ : w1.cell? ⟨p, 3, none⟩ = some (.slice A1 n1 c1) := K.out.cellOf 3 rfl
        have p4_ : w1.cell? ⟨p, 4, none⟩ = some (.slice A2 n2 c2) := K.out.cellOf 4 rfl
        have p5_ : w1.cell? ⟨p, 5, none⟩ = some (.slice A3 n3 c3) := K.out.cellOf 5 rfl
        go_wp2_with fail
        go_ret
        exact ⟨_, rfl, K.out.tail⟩
      · have an1i : decide ((n1 : Int) ≤ (300 : Int)) = true := by rw [decide_eq_true_eq]; omega
        have an1n : decide (n1 ≤ 300) = true := by rw [decide_eq_true_eq]; omega
        have an2i : decide ((n2 : Int) ≤ (300 : Int)) = true := by rw [decide_eq_true_eq]; omega
        have an2n : decide (n2 ≤ 300) = true := by rw [decide_eq_true_eq]; omega
        have an3i : decide ((n3 : Int) ≤ (300 : Int)) = false := by rw [decide_eq_false_iff_not]; omega
        have an3n : decide (n3 ≤ 300) = false := by rw [decide_eq_false_iff_not]; omega
        have bn3i : decide ((4096 : Int) < (n3 : Int)) = false := by rw [decide_eq_false_iff_not]; omega
        have bn3n : decide (4096 < n3) = false := by rw [decide_eq_false_iff_not]; omega
        go_enter Try.func25, Try.ntmps25
        go_upto_region 1 with (fail)
        generalize World.alloc _ _ = w1 at K ⊢
        generalize w.heap.size = p at K ⊢
        have p0_ : w1.cell? ⟨p, 0, none⟩ = some (.int .i64 tk) := K.out.cellOf 0 rfl
        have p1_ : w1.cell? ⟨p, 1, none⟩ = some (.int .i64 of) := K.out.cellOf 1 rfl
        have p2_ : w1.cell? ⟨p, 2, none⟩ = some (.int .i64 mk) := K.out.cellOf 2 rfl
        have p3_ : w1.cell? ⟨p, 3, none⟩ = some (.slice A1 n1 c1) := K.out.cellOf 3 rfl
        have p4_ : w1.cell? ⟨p, 4, none⟩ = some (.slice A2 n2 c2) := K.out.cellOf 4 rfl
        have p5_ : w1.cell? ⟨p, 5, none⟩ = some (.slice A3 n3 c3) := K.out.cellOf 5 rfl
        go_wp2_with fail
        go_ret
        exact ⟨_, rfl, K.out.tail⟩
      · have an1i : decide ((n1 : Int) ≤ (300 : Int)) = true := by rw [decide_eq_true_eq]; omega
        have an1n : decide (n1 ≤ 300) = true := by rw [decide_eq_true_eq]; omega
        have an2i : decide ((n2 : Int) ≤ (300 : Int)) = true := by rw [decide_eq_true_eq]; omega
        have an2n : decide (n2 ≤ 300) = true := by rw [decide_eq_true_eq]; omega
        have an3i : decide ((n3 : Int) ≤ (300 : Int)) = false := by rw [decide_eq_false_iff_not]; omega
        have an3n : decide (n3 ≤ 300) = false := by rw [decide_eq_false_iff_not]; omega
        have bn3i : decide ((4096 : Int) < (n3 : Int)) = true := by rw [decide_eq_true_eq]; omega
        have bn3n : decide (4096 < n3) = true := by rw [decide_eq_true_eq]; omega
        have cn3i : decide ((n3 : Int) < (4105 : Int)) = true := by rw [decide_eq_true_eq]; omega
        have cn3n : decide (n3 < 4105) = true := by rw [decide_eq_true_eq]; omega
        go_enter Try.func25, Try.ntmps25
        go_upto_region 1 with (fail)
        generalize World.alloc _ _ = w1 at K ⊢
        generalize w.heap.size = p at K ⊢
        have p0_ : w1.cell? ⟨p, 0, none⟩ = some (.int .i64 tk) := K.out.cellOf 0 rfl
        have p1_ : w1.cell? ⟨p, 1, none⟩ = some (.int .i64 of) := K.out.cellOf 1 rfl
        have p2_ : w1.cell? ⟨p, 2, none⟩ = some (.int .i64 mk) := K.out.cellOf 2 rfl
        have p3_ : w1.cell? ⟨p, 3, none⟩ = some (.slice A1 n1 c1) := K.out.cellOf 3 rfl
        have p4_ : w1.cell? ⟨p, 4, none⟩ = some (.slice A2 n2 c2) := K.out.cellOf 4 rfl
        have p5_ : w1.cell? ⟨p, 5, none⟩ = some (.slice A3 n3 c3) := K.out.cellOf 5 rfl
        go_wp2_with fail
        go_ret
        exact ⟨_, rfl, K.out.tail⟩
      · have an1i : decide ((n1 : Int) ≤ (300 : Int)) = true := by rw [decide_eq_true_eq]; omega
        have an1n : decide (n1 ≤ 300) = true := by rw [decide_eq_true_eq]; omega
        have an2i : decide ((n2 : Int) ≤ (300 : Int)) = true := by rw [decide_eq_true_eq]; omega
        have an2n : decide (n2 ≤ 300) = true := by rw [decide_eq_true_eq]; omega
        have an3i : decide ((n3 : Int) ≤ (300 : Int)) = false := by rw [decide_eq_false_iff_not]; omega
        have an3n : decide (n3 ≤ 300) = false := by rw [decide_eq_false_iff_not]; omega
        have bn3i : decide ((4096 : Int) < (n3 : Int)) = true := by rw [decide_eq_true_eq]; omega
        have bn3n : decide (4096 < n3) = true := by rw [decide_eq_true_eq]; omega
        have cn3i : decide ((n3 : Int) < (4105 : Int)) = false := by rw [decide_eq_false_iff_not]; omega
        have cn3n : decide (n3 < 4105) = false := by rw [decide_eq_false_iff_not]; omega
        go_enter Try.func25, Try.ntmps25
        go_upto_region 1 with (fail)
        generalize World.alloc _ _ = w1 at K ⊢
        generalize w.heap.size = p at K ⊢
        have p0_ : w1.cell? ⟨p, 0, none⟩ = some (.int .i64 tk) := K.out.cellOf 0 rfl
        have p1_ : w1.cell? ⟨p, 1, none⟩ = some (.int .i64 of) := K.out.cellOf 1 rfl
        have p2_ : w1.cell? ⟨p, 2, none⟩ = some (.int .i64 mk) := K.out.cellOf 2 rfl
        have p3_ : w1.cell? ⟨p, 3, none⟩ = some (.slice A1 n1 c1) := K.out.cellOf 3 rfl
        have p4_ : w1.cell? ⟨p, 4, none⟩ = some (.slice A2 n2 c2) := K.out.cellOf 4 rfl
        have p5_ : w1.cell? ⟨p, 5, none⟩ = some (.slice A3 n3 c3) := K.out.cellOf 5 rfl
        go_wp2_with fail
        go_ret
        exact ⟨_, rfl, K.out.tail⟩
    · rcases (by omega : n3 ≤ 300 ∨ 300 < n3 ∧ n3 ≤ 4096 ∨ 4096 < n3 ∧ n3 < 4105 ∨ 4105 ≤ n3) with gn3 | gn3 | gn3 | gn3
      · have an1i : decide ((n1 : Int) ≤ (300 : Int)) = true := by rw [decide_eq_true_eq]; omega
        have an1n : decide (n1 ≤ 300) = true := by rw [decide_eq_true_eq]; omega
        have an2i : decide ((n2 : Int) ≤ (300 : Int)) = false := by rw [decide_eq_false_iff_not]; omega
        have an2n : decide (n2 ≤ 300) = false := by rw [decide_eq_false_iff_not]; omega
        have bn2i : decide ((4096 : Int) < (n2 : Int)) = false := by rw [decide_eq_false_iff_not]; omega
        have bn2n : decide (4096 < n2) = false := by rw [decide_eq_false_iff_not]; omega
        have an3i : decide ((n3 : Int) ≤ (300 : Int)) = true := by rw [decide_eq_true_eq]; omega
        have an3n : decide (n3 ≤ 300) = true := by rw [decide_eq_true_eq]; omega
        go_enter Try.func25, Try.ntmps25
        go_upto_region 1 with (fail)
        generalize World.alloc _ _ = w1 at K ⊢
        generalize w.heap.size = p at K ⊢
        have p0_ : w1.cell? ⟨p, 0, none⟩ = some (.int .i64 tk) := K.out.cellOf 0 rfl
        have p1_ : w1.cell? ⟨p, 1, none⟩ = some (.int .i64 of) := K.out.cellOf 1 rfl
        have p2_ : w1.cell? ⟨p, 2, none⟩ = some (.int .i64 mk) := K.out.cellOf 2 rfl
        have p3_ : w1.cell? ⟨p, 3, none⟩ = some (.slice A1 n1 c1) := K.out.cellOf 3 rfl
        have p4_ : w1.cell? ⟨p, 4, none⟩ = some (.slice A2 n2 c2) := K.out.cellOf 4 rfl
        have p5_ : w1.cell? ⟨p, 5, none⟩ = some (.slice A3 n3 c3) := K.out.cellOf 5 rfl
        go_wp2_with fail
        go_ret
        exact ⟨_, rfl, K.out.tail⟩
      · have an1i : decide ((n1 : Int) ≤ (300 : Int)) = true := by rw [decide_eq_true_eq]; omega
        have an1n : decide (n1 ≤ 300) = true := by rw [decide_eq_true_eq]; omega
        have an2i : decide ((n2 : Int) ≤ (300 : Int)) = false := by rw [decide_eq_false_iff_not]; omega
        have an2n : decide (n2 ≤ 300) = false := by rw [decide_eq_false_iff_not]; omega
        have bn2i : decide ((4096 : Int) < (n2 : Int)) = false := by rw [decide_eq_false_iff_not]; omega
        have bn2n : decide (4096 < n2) = false := by rw [decide_eq_false_iff_not]; omega
        have an3i : decide ((n3 : Int) ≤ (300 : Int)) = false := by rw [decide_eq_false_iff_not]; omega
        have an3n : decide (n3 ≤ 300) = false := by rw [decide_eq_false_iff_not]; omega
        have bn3i : decide ((4096 : Int) < (n3 : Int)) = false := by rw [decide_eq_false_iff_not]; omega
        have bn3n : decide (4096 < n3) = false := by rw [decide_eq_false_iff_not]; omega
        go_enter Try.func25, Try.ntmps25
        go_upto_region 1 with (fail)
        generalize World.alloc _ _ = w1 at K ⊢
        generalize w.heap.size = p at K ⊢
        have p0_ : w1.cell? ⟨p, 0, none⟩ = some (.int .i64 tk) := K.out.cellOf 0 rfl
        have p1_ : w1.cell? ⟨p, 1, none⟩ = some (.int .i64 of) := K.out.cellOf 1 rfl
        have p2_ : w1.cell? ⟨p, 2, none⟩ = some (.int .i64 mk) := K.out.cellOf 2 rfl
        have p3_ : w1.cell? ⟨p, 3, none⟩ = some (.slice A1 n1 c1) := K.out.cellOf 3 rfl
        have p4_ : w1.cell? ⟨p, 4, none⟩ = some (.slice A2 n2 c2) := K.out.cellOf 4 rfl
        have p5_ : w1.cell? ⟨p, 5, none⟩ = some (.slice A3 n3 c3) := K.out.cellOf 5 rfl
        go_wp2_with fail
        go_ret
        exact ⟨_, rfl, K.out.tail⟩
      · have an1i : decide ((n1 : Int) ≤ (300 : Int)) = true := by rw [decide_eq_true_eq]; omega
        have an1n : decide (n1 ≤ 300) = true := by rw [decide_eq_true_eq]; omega
        have an2i : decide ((n2 : Int) ≤ (300 : Int)) = false := by rw [decide_eq_false_iff_not]; omega
        have an2n : decide (n2 ≤ 300) = false := by rw [decide_eq_false_iff_not]; omega
        have bn2i : decide ((4096 : Int) < (n2 : Int)) = false := by rw [decide_eq_false_iff_not]; omega
        have bn2n : decide (4096 < n2) = false := by rw [decide_eq_false_iff_not]; omega
        have an3i : decide ((n3 : Int) ≤ (300 : Int)) = false := by rw [decide_eq_false_iff_not]; omega
        have an3n : decide (n3 ≤ 300) = false := by rw [decide_eq_false_iff_not]; omega
        have bn3i : decide ((4096 : Int) < (n3 : Int)) = true := by rw [decide_eq_true_eq]; omega
        have bn3n : decide (4096 < n3) = true := by rw [decide_eq_true_eq]; omega
        have cn3i : decide ((n3 : Int) < (4105 : Int)) = true := by rw [decide_eq_true_eq]; omega
        have cn3n : decide (n3 < 4105) = true := by rw [decide_eq_true_eq]; omega
        go_enter Try.func25, Try.ntmps25
        go_upto_region 1 with (fail)
        generalize World.alloc _ _ = w1 at K ⊢
        generalize w.heap.size = p at K ⊢
        have p0_ : w1.cell? ⟨p, 0, none⟩ = some (.int .i64 tk) := K.out.cellOf 0 rfl
        have p1_ : w1.cell? ⟨p, 1, none⟩ = some (.int .i64 of) := K.out.cellOf 1 rfl
        have p2_ : w1.cell? ⟨p, 2, none⟩ = some (.int .i64 mk) := K.out.cellOf 2 rfl
        have p3_ : w1.cell? ⟨p, 3, none⟩ = some (.slice A1 n1 c1) := K.out.cellOf 3 rfl
        have p4_ : w1.cell? ⟨p, 4, none⟩ = some (.slice A2 n2 c2) := K.out.cellOf 4 rfl
        have p5_ : w1.cell? ⟨p, 5, none⟩ = some (.slice A3 n3 c3) := K.out.cellOf 5 rfl
        go_wp2_with fail
        go_ret
        exact ⟨_, rfl, K.out.tail⟩
      · have an1i : decide ((n1 : Int) ≤ (300 : Int)) = true := by rw [decide_eq_true_eq]; omega
        have an1n : decide (n1 ≤ 300) = true := by rw [decide_eq_true_eq]; omega
        have an2i : decide ((n2 : Int) ≤ (300 : Int)) = false := by rw [decide_eq_false_iff_not]; omega
        have an2n : decide (n2 ≤ 300) = false := by rw [decide_eq_false_iff_not]; omega
        have bn2i : decide ((4096 : Int) < (n2 : Int)) = false := by rw [decide_eq_false_iff_not]; omega
        have bn2n : decide (4096 < n2) = false := by rw [decide_eq_false_iff_not]; omega
        have an3i : decide ((n3 : Int) ≤ (300 : Int)) = false := by rw [decide_eq_false_iff_not]; omega
        have an3n : decide (n3 ≤ 300) = false := by rw [decide_eq_false_iff_not]; omega
        have bn3i : decide ((4096 : Int) < (n3 : Int)) = true := by rw [decide_eq_true_eq]; omega
        have bn3n : decide (4096 < n3) = true := by rw [decide_eq_true_eq]; omega
        have cn3i : decide ((n3 : Int) < (4105 : Int)) = false := by rw [decide_eq_false_iff_not]; omega
        have cn3n : decide (n3 < 4105) = false := by rw [decide_eq_false_iff_not]; omega
        go_enter Try.func25, Try.ntmps25
        go_upto_region 1 with (fail)
        generalize World.alloc _ _ = w1 at K ⊢
        generalize w.heap.size = p at K ⊢
        have p0_ : w1.cell? ⟨p, 0, none⟩ = some (.int .i64 tk) := K.out.cellOf 0 rfl
        have p1_ : w1.cell? ⟨p, 1, none⟩ = some (.int .i64 of) := K.out.cellOf 1 rfl
        have p2_ : w1.cell? ⟨p, 2, none⟩ = some (.int .i64 mk) := K.out.cellOf 2 rfl
        have p3_ : w1.cell? ⟨p, 3, none⟩ = some (.slice A1 n1 c1) := K.out.cellOf 3 rfl
        have p4_ : w1.cell? ⟨p, 4, none⟩ = some (.slice A2 n2 c2) := K.out.cellOf 4 rfl
        have p5_ : w1.cell? ⟨p, 5, none⟩ = some (.slice A3 n3 c3) := K.out.cellOf 5 rfl
        go_wp2_with fail
        go_ret
        exact ⟨_, rfl, K.out.tail⟩
    · rcases (by omega : n3 ≤ 300 ∨ 300 < n3 ∧ n3 ≤ 4096 ∨ 4096 < n3 ∧ n3 < 4105 ∨ 4105 ≤ n3) with gn3 | gn3 | gn3 | gn3
      · have an1i : decide ((n1 : Int) ≤ (300 : Int)) = true := by rw [decide_eq_true_eq]; omega
        have an1n : decide (n1 ≤ 300) = true := by rw [decide_eq_true_eq]; omega
        have an2i : decide ((n2 : Int) ≤ (300 : Int)) = false := by rw [decide_eq_false_iff_not]; omega
        have an2n : decide (n2 ≤ 300) = false := by rw [decide_eq_false_iff_not]; omega
        have bn2i : decide ((4096 : Int) < (n2 : Int)) = true := by rw [decide_eq_true_eq]; omega
        have bn2n : decide (4096 < n2) = true := by rw [decide_eq_true_eq]; omega
        have cn2i : decide ((n2 : Int) < (4105 : Int)) = true := by rw [decide_eq_true_eq]; omega
        have cn2n : decide (n2 < 4105) = true := by rw [decide_eq_true_eq]; omega
        have an3i : decide ((n3 : Int) ≤ (300 : Int)) = true := by rw [decide_eq_true_eq]; omega
        have an3n : decide (n3 ≤ 300) = true := by rw [decide_eq_true_eq]; omega
        go_enter Try.func25, Try.ntmps25
        go_upto_region 1 with (fail)
        generalize World.alloc _ _ = w1 at K ⊢
        generalize w.heap.size = p at K ⊢
        have p0_ : w1.cell? ⟨p, 0, none⟩ = some (.int .i64 tk) := K.out.cellOf 0 rfl
        have p1_ : w1.cell? ⟨p, 1, none⟩ = some (.int .i64 of) := K.out.cellOf 1 rfl
        have p2_ : w1.cell? ⟨p, 2, none⟩ = some (.int .i64 mk) := K.out.cellOf 2 rfl
        have p3_ : w1.cell? ⟨p, 3, none⟩ = some (.slice A1 n1 c1) := K.out.cellOf 3 rfl
        have p4_ : w1.cell? ⟨p, 4, none⟩ = some (.slice A2 n2 c2) := K.out.cellOf 4 rfl
        have p5_ : w1.cell? ⟨p, 5, none⟩ = some (.slice A3 n3 c3) := K.out.cellOf 5 rfl
        go_wp2_with fail
        go_ret
        exact ⟨_, rfl, K.out.tail⟩
      · have an1i : decide ((n1 : Int) ≤ (300 : Int)) = true := by rw [decide_eq_true_eq]; omega
        have an1n : decide (n1 ≤ 300) = true := by rw [decide_eq_true_eq]; omega
        have an2i : decide ((n2 : Int) ≤ (300 : Int)) = false := by rw [decide_eq_false_iff_not]; omega
        have an2n : decide (n2 ≤ 300) = false := by rw [decide_eq_false_iff_not]; omega
        have bn2i : decide ((4096 : Int) < (n2 : Int)) = true := by rw [decide_eq_true_eq]; omega
        have bn2n : decide (4096 < n2) = true := by rw [decide_eq_true_eq]; omega
        have cn2i : decide ((n2 : Int) < (4105 : Int)) = true := by rw [decide_eq_true_eq]; omega
        have cn2n : decide (n2 < 4105) = true := by rw [decide_eq_true_eq]; omega
        have an3i : decide ((n3 : Int) ≤ (300 : Int)) = false := by rw [decide_eq_false_iff_not]; omega
        have an3n : decide (n3 ≤ 300) = false := by rw [decide_eq_false_iff_not]; omega
        have bn3i : decide ((4096 : Int) < (n3 : Int)) = false := by rw [decide_eq_false_iff_not]; omega
        have bn3n : decide (4096 < n3) = false := by rw [decide_eq_false_iff_not]; omega
        go_enter Try.func25, Try.ntmps25
        go_upto_region 1 with (fail)
        generalize World.alloc _ _ = w1 at K ⊢
        generalize w.heap.size = p at K ⊢
        have p0_ : w1.cell? ⟨p, 0, none⟩ = some (.int .i64 tk) := K.out.cellOf 0 rfl
        have p1_ : w1.cell? ⟨p, 1, none⟩ = some (.int .i64 of) := K.out.cellOf 1 rfl
        have p2_ : w1.cell? ⟨p, 2, none⟩ = some (.int .i64 mk) := K.out.cellOf 2 rfl
        have p3_ : w1.cell? ⟨p, 3, none⟩ = some (.slice A1 n1 c1) := K.out.cellOf 3 rfl
        have p4_ : w1.cell? ⟨p, 4, none⟩ = some (.slice A2 n2 c2) := K.out.cellOf 4 rfl
        have p5_ : w1.cell? ⟨p, 5, none⟩ = some (.slice A3 n3 c3) := K.out.cellOf 5 rfl
        go_wp2_with fail
        go_ret
        exact ⟨_, rfl, K.out.tail⟩
      · have an1i : decide ((n1 : Int) ≤ (300 : Int)) = true := by rw [decide_eq_true_eq]; omega
        have an1n : decide (n1 ≤ 300) = true := by rw [decide_eq_true_eq]; omega
        have an2i : decide ((n2 : Int) ≤ (300 : Int)) = false := by rw [decide_eq_false_iff_not]; omega
        have an2n : decide (n2 ≤ 300) = false := by rw [decide_eq_false_iff_not]; omega
        have bn2i : decide ((4096 : Int) < (n2 : Int)) = true := by rw [decide_eq_true_eq]; omega
        have bn2n : decide (4096 < n2) = true := by rw [decide_eq_true_eq]; omega
        have cn2i : decide ((n2 : Int) < (4105 : Int)) = true := by rw [decide_eq_true_eq]; omega
        have cn2n : decide (n2 < 4105) = true := by rw [decide_eq_true_eq]; omega
        have an3i : decide ((n3 : Int) ≤ (300 : Int)) = false := by rw [decide_eq_false_iff_not]; omega
        have an3n : decide (n3 ≤ 300) = false := by rw [decide_eq_false_iff_not]; omega
        have bn3i : decide ((4096 : Int) < (n3 : Int)) = true := by rw [decide_eq_true_eq]; omega
        have bn3n : decide (4096 < n3) = true := by rw [decide_eq_true_eq]; omega
        have cn3i : decide ((n3 : Int) < (4105 : Int)) = true := by rw [decide_eq_true_eq]; omega
        have cn3n : decide (n3 < 4105) = true := by rw [decide_eq_true_eq]; omega
        go_enter Try.func25, Try.ntmps25
        go_upto_region 1 with (fail)
        generalize World.alloc _ _ = w1 at K ⊢
        generalize w.heap.size = p at K ⊢
        have p0_ : w1.cell? ⟨p, 0, none⟩ = some (.int .i64 tk) := K.out.cellOf 0 rfl
        have p1_ : w1.cell? ⟨p, 1, none⟩ = some (.int .i64 of) := K.out.cellOf 1 rfl
        have p2_ : w1.cell? ⟨p, 2, none⟩ = some (.int .i64 mk) := K.out.cellOf 2 rfl
        have p3_ : w1.cell? ⟨p, 3, none⟩ = some (.slice A1 n1 c1) := K.out.cellOf 3 rfl
        have p4_ : w1.cell? ⟨p, 4, none⟩ = some (.slice A2 n2 c2) := K.out.cellOf 4 rfl
        have p5_ : w1.cell? ⟨p, 5, none⟩ = some (.slice A3 n3 c3) := K.out.cellOf 5 rfl
        go_wp2_with fail
        go_ret
        exact ⟨_, rfl, K.out.tail⟩
      · have an1i : decide ((n1 : Int) ≤ (300 : Int)) = true := by rw [decide_eq_true_eq]; omega
        have an1n : decide (n1 ≤ 300) = true := by rw [decide_eq_true_eq]; omega
        have an2i : decide ((n2 : Int) ≤ (300 : Int)) = false := by rw [decide_eq_false_iff_not]; omega
        have an2n : decide (n2 ≤ 300) = false := by rw [decide_eq_false_iff_not]; omega
        have bn2i : decide ((4096 : Int) < (n2 : Int)) = true := by rw [decide_eq_true_eq]; omega
        have bn2n : decide (4096 < n2) = true := by rw [decide_eq_true_eq]; omega
        have cn2i : decide ((n2 : Int) < (4105 : Int)) = true := by rw [decide_eq_true_eq]; omega
        have cn2n : decide (n2 < 4105) = true := by rw [decide_eq_true_eq]; omega
        have an3i : decide ((n3 : Int) ≤ (300 : Int)) = false := by rw [decide_eq_false_iff_not]; omega
        have an3n : decide (n3 ≤ 300) = false := by rw [decide_eq_false_iff_not]; omega
        have bn3i : decide ((4096 : Int) < (n3 : Int)) = true := by rw [decide_eq_true_eq]; omega
        have bn3n : decide (4096 < n3) = true := by rw [decide_eq_true_eq]; omega
        have cn3i : decide ((n3 : Int) < (4105 : Int)) = false := by rw [decide_eq_false_iff_not]; omega
        have cn3n : decide (n3 < 4105) = false := by rw [decide_eq_false_iff_not]; omega
        go_enter Try.func25, Try.ntmps25
        go_upto_region 1 with (fail)
        generalize World.alloc _ _ = w1 at K ⊢
        generalize w.heap.size = p at K ⊢
        have p0_ : w1.cell? ⟨p, 0, none⟩ = some (.int .i64 tk) := K.out.cellOf 0 rfl
        have p1_ : w1.cell? ⟨p, 1, none⟩ = some (.int .i64 of) := K.out.cellOf 1 rfl
        have p2_ : w1.cell? ⟨p, 2, none⟩ = some (.int .i64 mk) := K.out.cellOf 2 rfl
        have p3_ : w1.cell? ⟨p, 3, none⟩ = some (.slice A1 n1 c1) := K.out.cellOf 3 rfl
        have p4_ : w1.cell? ⟨p, 4, none⟩ = some (.slice A2 n2 c2) := K.out.cellOf 4 rfl
        have p5_ : w1.cell? ⟨p, 5, none⟩ = some (.slice A3 n3 c3) := K.out.cellOf 5 rfl
        go_wp2_with fail
        go_ret
        exact ⟨_, rfl, K.out.tail⟩
    · rcases (by omega : n3 ≤ 300 ∨ 300 < n3 ∧ n3 ≤ 4096 ∨ 4096 < n3 ∧ n3 < 4105 ∨ 4105 ≤ n3) with gn3 | gn3 | gn3 | gn3
      · have an1i : decide ((n1 : Int) ≤ (300 : Int)) = true := by rw [decide_eq_true_eq]; omega
        have an1n : decide (n1 ≤ 300) = true := by rw [decide_eq_true_eq]; omega
        have an2i : decide ((n2 : Int) ≤ (300 : Int)) = false := by rw [decide_eq_false_iff_not]; omega
        have an2n : decide (n2 ≤ 300) = false := by rw [decide_eq_false_iff_not]; omega
        have bn2i : decide ((4096 : Int) < (n2 : Int)) = true := by rw [decide_eq_true_eq]; omega
        have bn2n : decide (4096 < n2) = true := by rw [decide_eq_true_eq]; omega
        have cn2i : decide ((n2 : Int) < (4105 : Int)) = false := by rw [decide_eq_false_iff_not]; omega
        have cn2n : decide (n2 < 4105) = false := by rw [decide_eq_false_iff_not]; omega
        have an3i : decide ((n3 : Int) ≤ (300 : Int)) = true := by rw [decide_eq_true_eq]; omega
        have an3n : decide (n3 ≤ 300) = true := by rw [decide_eq_true_eq]; omega
        go_enter Try.func25, Try.ntmps25
        go_upto_region 1 with (fail)
        generalize World.alloc _ _ = w1 at K ⊢
        generalize w.heap.size = p at K ⊢
        have p0_ : w1.cell? ⟨p, 0, none⟩ = some (.int .i64 tk) := K.out.cellOf 0 rfl
        have p1_ : w1.cell? ⟨p, 1, none⟩ = some (.int .i64 of) := K.out.cellOf 1 rfl
        have p2_ : w1.cell? ⟨p, 2, none⟩ = some (.int .i64 mk) := K.out.cellOf 2 rfl
        have p3_ : w1.cell? ⟨p, 3, none⟩ = some (.slice A1 n1 c1) := K.out.cellOf 3 rfl
        have p4_ : w1.cell? ⟨p, 4, none⟩ = some (.slice A2 n2 c2) := K.out.cellOf 4 rfl
        have p5_ : w1.cell? ⟨p, 5, none⟩ = some (.slice A3 n3 c3) := K.out.cellOf 5 rfl
        go_wp2_with fail
        go_ret
        exact ⟨_, rfl, K.out.tail⟩
      · have an1i : decide ((n1 : Int) ≤ (300 : Int)) = true := by rw [decide_eq_true_eq]; omega
        have an1n : decide (n1 ≤ 300) = true := by rw [decide_eq_true_eq]; omega
        have an2i : decide ((n2 : Int) ≤ (300 : Int)) = false := by rw [decide_eq_false_iff_not]; omega
        have an2n : decide (n2 ≤ 300) = false := by rw [decide_eq_false_iff_not]; omega
        have bn2i : decide ((4096 : Int) < (n2 : Int)) = true := by rw [decide_eq_true_eq]; omega
        have bn2n : decide (4096 < n2) = true := by rw [decide_eq_true_eq]; omega
        have cn2i : decide ((n2 : Int) < (4105 : Int)) = false := by rw [decide_eq_false_iff_not]; omega
        have cn2n : decide (n2 < 4105) = false := by rw [decide_eq_false_iff_not]; omega
        have an3i : decide ((n3 : Int) ≤ (300 : Int)) = false := by rw [decide_eq_false_iff_not]; omega
        have an3n : decide (n3 ≤ 300) = false := by rw [decide_eq_false_iff_not]; omega
        have bn3i : decide ((4096 : Int) < (n3 : Int)) = false := by rw [decide_eq_false_iff_not]; omega
        have bn3n : decide (4096 < n3) = false := by rw [decide_eq_false_iff_not]; omega
        go_enter Try.func25, Try.ntmps25
        go_upto_region 1 with (fail)
        generalize World.alloc _ _ = w1 at K ⊢
        generalize w.heap.size = p at K ⊢
        have p0_ : w1.cell? ⟨p, 0, none⟩ = some (.int .i64 tk) := K.out.cellOf 0 rfl
        have p1_ : w1.cell? ⟨p, 1, none⟩ = some (.int .i64 of) := K.out.cellOf 1 rfl
        have p2_ : w1.cell? ⟨p, 2, none⟩ = some (.int .i64 mk) := K.out.cellOf 2 rfl
        have p3_ : w1.cell? ⟨p, 3, none⟩ = some (.slice A1 n1 c1) := K.out.cellOf 3 rfl
        have p4_ : w1.cell? ⟨p, 4, none⟩ = some (.slice A2 n2 c2) := K.out.cellOf 4 rfl
        have p5_ : w1.cell? ⟨p, 5, none⟩ = some (.slice A3 n3 c3) := K.out.cellOf 5 rfl
        go_wp2_with fail
        go_ret
        exact ⟨_, rfl, K.out.tail⟩
      · have an1i : decide ((n1 : Int) ≤ (300 : Int)) = true := by rw [decide_eq_true_eq]; omega
        have an1n : decide (n1 ≤ 300) = true := by rw [decide_eq_true_eq]; omega
        have an2i : decide ((n2 : Int) ≤ (300 : Int)) = false := by rw [decide_eq_false_iff_not]; omega
        have an2n : decide (n2 ≤ 300) = false := by rw [decide_eq_false_iff_not]; omega
        have bn2i : decide ((4096 : Int) < (n2 : Int)) = true := by rw [decide_eq_true_eq]; omega
        have bn2n : decide (4096 < n2) = true := by rw [decide_eq_true_eq]; omega
        have cn2i : decide ((n2 : Int) < (4105 : Int)) = false := by rw [decide_eq_false_iff_not]; omega
        have cn2n : decide (n2 < 4105) = false := by rw [decide_eq_false_iff_not]; omega
        have an3i : decide ((n3 : Int) ≤ (300 : Int)) = false := by rw [decide_eq_false_iff_not]; omega
        have an3n : decide (n3 ≤ 300) = false := by rw [decide_eq_false_iff_not]; omega
        have bn3i : decide ((4096 : Int) < (n3 : Int)) = true := by rw [decide_eq_true_eq]; omega
        have bn3n : decide (4096 < n3) = true := by rw [decide_eq_true_eq]; omega
        have cn3i : decide ((n3 : Int) < (4105 : Int)) = true := by rw [decide_eq_true_eq]; omega
        have cn3n : decide (n3 < 4105) = true := by rw [decide_eq_true_eq]; omega
        go_enter Try.func25, Try.ntmps25
        go_upto_region 1 with (fail)
        generalize World.alloc _ _ = w1 at K ⊢
        generalize w.heap.size = p at K ⊢
        have p0_ : w1.cell? ⟨p, 0, none⟩ = some (.int .i64 tk) := K.out.cellOf 0 rfl
        have p1_ : w1.cell? ⟨p, 1, none⟩ = some (.int .i64 of) := K.out.cellOf 1 rfl
        have p2_ : w1.cell? ⟨p, 2, none⟩ = some (.int .i64 mk) := K.out.cellOf 2 rfl
        have p3_ : w1.cell? ⟨p, 3, none⟩ = some (.slice A1 n1 c1) := K.out.cellOf 3 rfl
        have p4_ : w1.cell? ⟨p, 4, none⟩ = some (.slice A2 n2 c2) := K.out.cellOf 4 rfl
        have p5_ : w1.cell? ⟨p, 5, none⟩ = some (.slice A3 n3 c3) := K.out.cellOf 5 rfl
        go_wp2_with fail
        go_ret
        exact ⟨_, rfl, K.out.tail⟩
      · have an1i : decide ((n1 : Int) ≤ (300 : Int)) = true := by rw [decide_eq_true_eq]; omega
        have an1n : decide (n1 ≤ 300) = true := by rw [decide_eq_true_eq]; omega
        have an2i : decide ((n2 : Int) ≤ (300 : Int)) = false := by rw [decide_eq_false_iff_not]; omega
        have an2n : decide (n2 ≤ 300) = false := by rw [decide_eq_false_iff_not]; omega
        have bn2i : decide ((4096 : Int) < (n2 : Int)) = true := by rw [decide_eq_true_eq]; omega
        have bn2n : decide (4096 < n2) = true := by rw [decide_eq_true_eq]; omega
        have cn2i : decide ((n2 : Int) < (4105 : Int)) = false := by rw [decide_eq_false_iff_not]; omega
        have cn2n : decide (n2 < 4105) = false := by rw [decide_eq_false_iff_not]; omega
        have an3i : decide ((n3 : Int) ≤ (300 : Int)) = false := by rw [decide_eq_false_iff_not]; omega
        have an3n : decide (n3 ≤ 300) = false := by rw [decide_eq_false_iff_not]; omega
        have bn3i : decide ((4096 : Int) < (n3 : Int)) = true := by rw [decide_eq_true_eq]; omega
        have bn3n : decide (4096 < n3) = true := by rw [decide_eq_true_eq]; omega
        have cn3i : decide ((n3 : Int) < (4105 : Int)) = false := by rw [decide_eq_false_iff_not]; omega
        have cn3n : decide (n3 < 4105) = false := by rw [decide_eq_false_iff_not]; omega
        go_enter Try.func25, Try.ntmps25
        go_upto_region 1 with (fail)
        generalize World.alloc _ _ = w1 at K ⊢
        generalize w.heap.size = p at K ⊢
        have p0_ : w1.cell? ⟨p, 0, none⟩ = some (.int .i64 tk) := K.out.cellOf 0 rfl
        have p1_ : w1.cell? ⟨p, 1, none⟩ = some (.int .i64 of) := K.out.cellOf 1 rfl
        have p2_ : w1.cell? ⟨p, 2, none⟩ = some (.int .i64 mk) := K.out.cellOf 2 rfl
        have p3_ : w1.cell? ⟨p, 3, none⟩ = some (.slice A1 n1 c1) := K.out.cellOf 3 rfl
        have p4_ : w1.cell? ⟨p, 4, none⟩ = some (.slice A2 n2 c2) := K.out.cellOf 4 rfl
        have p5_ : w1.cell? ⟨p, 5, none⟩ = some (.slice A3 n3 c3) := K.out.cellOf 5 rfl
        go_wp2_with fail
        go_ret
        exact ⟨_, rfl, K.out.tail⟩
  · have an1i : decide ((n1 : Int) ≤ (300 : Int)) = false := by rw [decide_eq_false_iff_not]; omega
    have an1n : decide (n1 ≤ 300) = false := by rw [decide_eq_false_iff_not]; omega
    go_enter Try.func25, Try.ntmps25
    go_upto_region 1 with (fail)
    generalize World.alloc _ _ = w1 at K ⊢
    generalize w.heap.size = p at K ⊢
    have p0_ : w1.cell? ⟨p, 0, none⟩ = some (.int .i64 tk) := K.out.cellOf 0 rfl
    have p1_ : w1.cell? ⟨p, 1, none⟩ = some (.int .i64 of) := K.out.cellOf 1 rfl
    have p2_ : w1.cell? ⟨p, 2, none⟩ = some (.int .i64 mk) := K.out.cellOf 2 rfl
    have p3_ : w1.cell? ⟨p, 3, none⟩ = some (.slice A1 n1 c1) := K.out.cellOf 3 rfl
    have p4_ : w1.cell? ⟨p, 4, none⟩ = some (.slice A2 n2 c2) := K.out.cellOf 4 rfl
    have p5_ : w1.cell? ⟨p, 5, none⟩ = some (.slice A3 n3 c3) := K.out.cellOf 5 rfl
    go_wp2_with fail
    go_ret
    exact ⟨_, rfl, K.out.tail⟩
end Go.Proofs.Ytjdkpogkhecijaa

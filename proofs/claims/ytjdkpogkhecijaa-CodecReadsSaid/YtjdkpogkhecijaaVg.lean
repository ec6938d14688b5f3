import Derived.Test.YtjdkpogkhecijaaVf
import Derived.Test.YtjdkpogkhecijaaUg
import Derived.Test.YtjdkpogkhecijaaUb
import Derived.Test.YtjdkpogkhecijaaUc
import Derived.Test.YtjdkpogkhecijaaUc
import Derived.Test.YtjdkpogkhecijaaKn
import Derived.Test.YtjdkpogkhecijaaOf
import Derived.Test.YtjdkpogkhecijaaOc
import Derived.Test.YtjdkpogkhecijaaOs
import Derived.IntWalk
import Derived.Test.YtjdkpogkhecijaaProg
import Derived.Test.YtjdkpogkhecijaaLs
import Derived.Outline
import Derived.StillTailTactics
import Derived.Deep.DeepCutAuto
import Derived.Deep.CutBlock
import Derived.Deep.LoopGhost
import Derived.Deep.QuietTactic
import Derived.BigQuiet
import Derived.Deep.RegionHeld3
import Derived.Deep.RegionLaw
set_option linter.unusedVariables false
set_option linter.unusedSimpArgs false
namespace Go.Proofs.Ytjdkpogkhecijaa
open Go.RowKit
theorem opM_len (b : List Int) : (opM b).1.2.2.length ≤ 1000000000 := by
  unfold opM
  split
  · have := (mbad_no.1 (by assumption : _ ∧ _).2).1
    dsimp only
    omega
  · exact Nat.zero_le _
set_option maxRecDepth 100000 in
set_option maxHeartbeats 16000000 in
theorem codecreads_walk (A : Option Addr) (nb cb : Nat) (bs : List Int) (W : World) (rr : RdL U8 W (.slice A nb cb) bs) (hb : Byt bs) :
    Calls Try.prog 9 #[.slice A nb cb] W fun e w' => e = .returned (.bool true) ∧ Below W.heap.size W w' := by
  have hn := rr.caps.1
  by_cases hbig : 6000 < nb
  · have e1 : decide ((6000 : Int) < (nb : Int)) = true := by rw [decide_eq_true_eq]; omega
    have e2 : decide (6000 < nb) = true := decide_eq_true hbig
    have K := Lib.hid (Hs.start W)
    clear rr hb hn hbig
    go_enter Try.func9, Try.ntmps9
    go_wp2_with fail
    refine (known10 W W _ K.out).mono ?_
    rintro e w2 ⟨rfl, K2⟩
    replace K2 := Lib.hid K2
    go_wp2_with fail
    go_ret
    exact ⟨rfl, K2.out.under_old⟩
  have e1 : decide ((6000 : Int) < (nb : Int)) = false := by rw [decide_eq_false_iff_not]; omega
  have e2 : decide (6000 < nb) = false := decide_eq_false hbig
  have hml := opM_len bs
  have TF1 := fun v w w0 R H hr => openF23 v bs w w0 R H hr hb
  have TF2 := fun v w w0 R H hr => ropenF35 v bs w w0 R H hr hb
  have TC1 := fun v w w0 R H hr => openC24 v bs w w0 R H hr hb
  have TC2 := fun v w w0 R H hr => ropenC36 v bs w w0 R H hr hb
  have TS1 := fun v w w0 R H hr => openS34 v bs w w0 R H hr hb
  have TS2 := fun v w w0 R H hr => ropenS37 v bs w w0 R H hr hb
  have TM1 := fun v w w0 R H hr => openM31 v bs w w0 R H hr hb
  have TM2 := fun v w w0 R H hr => ropenM38 v bs w w0 R H hr hb (by omega)
  have TO1 := fun v w w0 R H hr => open16 v bs w w0 R H hr hb (by omega)
  have TO2 := fun v w w0 R H hr => ropen39 v bs w w0 R H hr hb (by omega)
  obtain ⟨⟨⟨k, ⟨r1, r2, r3⟩, m, n, o⟩, eF⟩, hF⟩ : ∃ x, opF bs = x := ⟨_, rfl⟩
  obtain ⟨⟨⟨ck, ce, cn, ct⟩, eC⟩, hC⟩ : ∃ x, opC bs = x := ⟨_, rfl⟩
  obtain ⟨⟨⟨tk, of, mk, ms, ps, os⟩, eS⟩, hS⟩ : ∃ x, opN bs = x := ⟨_, rfl⟩
  obtain ⟨⟨⟨mn, me, fs⟩, eM⟩, hM⟩ : ∃ x, opM bs = x := ⟨_, rfl⟩
  obtain ⟨⟨ys, xi, eO⟩, hO⟩ : ∃ x, opS bs = x := ⟨_, rfl⟩
  rw [hF] at TF1 TF2
  rw [hC] at TC1 TC2
  rw [hS] at TS1 TS2
  rw [hM] at TM1 TM2 hml
  rw [hO] at TO1 TO2
  dsimp only [frv, frc, ctv, ctc] at TF1 TF2 TC1 TC2
  dsimp only at hml
  replace TF1 := Lib.hid TF1
  replace TF2 := Lib.hid TF2
  replace TC1 := Lib.hid TC1
  replace TC2 := Lib.hid TC2
  replace TS1 := Lib.hid TS1
  replace TS2 := Lib.hid TS2
  replace TM1 := Lib.hid TM1
  replace TM2 := Lib.hid TM2
  replace TO1 := Lib.hid TO1
  replace TO2 := Lib.hid TO2
  have r0 := Lib.hid rr
  have K := Lib.hid (Hs.start W)
  replace hn := Lib.hid hn
  replace hml := Lib.hid hml
  have hb6 : bs.length ≤ 100000000 := by have := hn.out; omega
  replace hb6 := Lib.hid hb6
  clear rr hb hbig hF hC hS hM hO
  go_enter Try.func9, Try.ntmps9
  go_wp2_with fail
  refine (known10 W W _ K.out).mono ?_
  rintro e w2 ⟨rfl, K2⟩
  replace K2 := Lib.hid K2
  clear K
  go_wp2_with fail
  refine (copy17 (.slice A nb cb) bs w2 W _ K2.out (r0.out.old K2.out) hb6.out).mono ?_
  rintro e w3 ⟨Ay, cy, rfl, K3⟩
  rw [← hn.out] at K3 ⊢
  have Q0 := Lib.hid K3
  clear K2 K3 e1 e2
  go_wp2_with fail
  refine (TF1.out (.slice Ay nb cy) w3 W _ Q0.out (fun w' h => h.ls_rd)).mono ?_
  rintro e y0 ⟨rfl, P0⟩
  have Q1 := Lib.hid (P0.alloc (.cells #[.int .i64 k, .int .i64 r1, .int .i64 r2, .int .i64 r3, .int .i64 m, .int .u64 n, .bool o] 37))
  clear P0 Q0 TF1
  go_upto_region 7 with (fail)
  generalize World.alloc y0 _ = x0 at Q1 ⊢
  generalize y0.heap.size = p0 at Q1 ⊢
  go_wp2_with fail
  refine (TF2.out (.slice A nb cb) x0 W _ Q1.out (fun w' h => r0.out.old h.tail.tail)).mono ?_
  rintro e y1 ⟨rfl, P1⟩
  have Q2 := Lib.hid (P1.alloc (.cells #[.int .i64 k, .int .i64 r1, .int .i64 r2, .int .i64 r3, .int .i64 m, .int .u64 n, .bool o] 37))
  clear P1 Q1 TF2
  go_upto_region 8 with (fail)
  generalize World.alloc y1 _ = x1 at Q2 ⊢
  generalize y1.heap.size = p1 at Q2 ⊢
  go_wp2_with fail
  refine (TC1.out (.slice Ay nb cy) x1 W _ Q2.out (fun w' h => h.tail.tail.ls_rd)).mono ?_
  rintro e y2 ⟨rfl, P2⟩
  have Q3 := Lib.hid (P2.alloc (.cells #[.int .i64 ck, .int .u64 ce, .int .u64 cn, .int .i64 ct] 39))
  clear P2 Q2 TC1
  go_upto_region 9 with (fail)
  generalize World.alloc y2 _ = x2 at Q3 ⊢
  generalize y2.heap.size = p2 at Q3 ⊢
  go_wp2_with fail
  refine (TC2.out (.slice A nb cb) x2 W _ Q3.out (fun w' h => r0.out.old h.tail.tail.tail.tail)).mono ?_
  rintro e y3 ⟨rfl, P3⟩
  have Q4 := Lib.hid (P3.alloc (.cells #[.int .i64 ck, .int .u64 ce, .int .u64 cn, .int .i64 ct] 39))
  clear P3 Q3 TC2
  go_upto_region 10 with (fail)
  generalize World.alloc y3 _ = x3 at Q4 ⊢
  generalize y3.heap.size = p3 at Q4 ⊢
  go_wp2_with fail
  refine (TS1.out (.slice Ay nb cy) x3 W _ Q4.out (fun w' h => h.tail.tail.tail.tail.ls_rd)).mono ?_
  rintro e y4 ⟨B1, d1, B2, d2, B3, d3, rfl, P4⟩
  dsimp only at P4 ⊢
  have Q5 := Lib.hid (P4.alloc (.cells #[.int .i64 tk, .int .i64 of, .int .i64 mk, .slice B1 ms.length d1, .slice B2 ps.length d2, .slice B3 os.length d3] 55))
  clear P4 Q4 TS1
  go_upto_region 11 with (fail)
  generalize World.alloc y4 _ = x4 at Q5 ⊢
  generalize y4.heap.size = p4 at Q5 ⊢
  go_wp2_with fail
  refine (TS2.out (.slice A nb cb) x4 W _ Q5.out (fun w' h => r0.out.old h.tail.tail.tail.tail.tail.tail.tail.tail.tail)).mono ?_
  rintro e y5 ⟨D1, f1, D2, f2, D3, f3, rfl, P5⟩
  dsimp only at P5 ⊢
  have Q6 := Lib.hid (P5.alloc (.cells #[.int .i64 tk, .int .i64 of, .int .i64 mk, .slice D1 ms.length f1, .slice D2 ps.length f2, .slice D3 os.length f3] 55))
  clear P5 Q5 TS2
  go_upto_region 12 with (fail)
  generalize World.alloc y5 _ = x5 at Q6 ⊢
  generalize y5.heap.size = p5 at Q6 ⊢
  go_wp2_with fail
  refine (TM1.out (.slice Ay nb cy) x5 W _ Q6.out (fun w' h => h.tail.tail.tail.tail.tail.tail.tail.tail.tail.tail.tail.tail.ls_rd)).mono ?_
  rintro e y6 ⟨E1, g1, rfl, P6⟩
  dsimp only at P6 ⊢
  have Q7 := Lib.hid (P6.alloc (.cells #[.int .u64 mn, .int .u64 me, .slice E1 fs.length g1] 62))
  clear P6 Q6 TM1
  go_upto_region 13 with (fail)
  generalize World.alloc y6 _ = x6 at Q7 ⊢
  generalize y6.heap.size = p6 at Q7 ⊢
  go_wp2_with fail
  refine (TM2.out (.slice A nb cb) x6 W _ Q7.out (fun w' h => r0.out.old h.tail.tail.tail.tail.tail.tail.tail.tail.tail.tail.tail.tail.tail.tail.tail)).mono ?_
  rintro e y7 ⟨E2, g2, rfl, P7⟩
  dsimp only at P7 ⊢
  have Q8 := Lib.hid (P7.alloc (.cells #[.int .u64 mn, .int .u64 me, .slice E2 fs.length g2] 62))
  clear P7 Q7 TM2
  go_upto_region 14 with (fail)
  generalize World.alloc y7 _ = x7 at Q8 ⊢
  generalize y7.heap.size = p7 at Q8 ⊢
  go_wp2_with fail
  refine (TO1.out (.slice Ay nb cy) x7 W _ Q8.out (fun w' h => h.tail.tail.tail.tail.tail.tail.tail.tail.tail.tail.tail.tail.tail.tail.tail.tail.ls_rd)).mono ?_
  rintro e y8 ⟨G0, h0, rfl, P8⟩
  dsimp only at P8 ⊢
  have Q9 := Lib.hid P8
  clear P8 Q8 TO1
  go_wp2_with fail
  refine (TO2.out (.slice A nb cb) y8 W _ Q9.out (fun w' h => r0.out.old h.tail.tail.tail.tail.tail.tail.tail.tail.tail.tail.tail.tail.tail.tail.tail.tail.tail.tail)).mono ?_
  rintro e y9 ⟨G1, h1, rfl, P9⟩
  dsimp only at P9 ⊢
  have Q10 := Lib.hid P9
  clear P9 Q9 TO2
  have z00_ : y9.cell? ⟨p0, 0, none⟩ = some (.int .i64 k) := Q10.out.tail.tail.tail.tail.tail.tail.tail.tail.tail.tail.tail.tail.tail.tail.tail.tail.tail.cellOf 0 rfl
  have z01_ : y9.cell? ⟨p0, 1, none⟩ = some (.int .i64 r1) := Q10.out.tail.tail.tail.tail.tail.tail.tail.tail.tail.tail.tail.tail.tail.tail.tail.tail.tail.cellOf 1 rfl
  have z02_ : y9.cell? ⟨p0, 2, none⟩ = some (.int .i64 r2) := Q10.out.tail.tail.tail.tail.tail.tail.tail.tail.tail.tail.tail.tail.tail.tail.tail.tail.tail.cellOf 2 rfl
  have z03_ : y9.cell? ⟨p0, 3, none⟩ = some (.int .i64 r3) := Q10.out.tail.tail.tail.tail.tail.tail.tail.tail.tail.tail.tail.tail.tail.tail.tail.tail.tail.cellOf 3 rfl
  have z04_ : y9.cell? ⟨p0, 4, none⟩ = some (.int .i64 m) := Q10.out.tail.tail.tail.tail.tail.tail.tail.tail.tail.tail.tail.tail.tail.tail.tail.tail.tail.cellOf 4 rfl
  have z05_ : y9.cell? ⟨p0, 5, none⟩ = some (.int .u64 n) := Q10.out.tail.tail.tail.tail.tail.tail.tail.tail.tail.tail.tail.tail.tail.tail.tail.tail.tail.cellOf 5 rfl
  have z06_ : y9.cell? ⟨p0, 6, none⟩ = some (.bool o) := Q10.out.tail.tail.tail.tail.tail.tail.tail.tail.tail.tail.tail.tail.tail.tail.tail.tail.tail.cellOf 6 rfl
  have z10_ : y9.cell? ⟨p1, 0, none⟩ = some (.int .i64 k) := Q10.out.tail.tail.tail.tail.tail.tail.tail.tail.tail.tail.tail.tail.tail.tail.tail.tail.cellOf 0 rfl
  have z11_ : y9.cell? ⟨p1, 1, none⟩ = some (.int .i64 r1) := Q10.out.tail.tail.tail.tail.tail.tail.tail.tail.tail.tail.tail.tail.tail.tail.tail.tail.cellOf 1 rfl
  have z12_ : y9.cell? ⟨p1, 2, none⟩ = some (.int .i64 r2) := Q10.out.tail.tail.tail.tail.tail.tail.tail.tail.tail.tail.tail.tail.tail.tail.tail.tail.cellOf 2 rfl
  have z13_ : y9.cell? ⟨p1, 3, none⟩ = some (.int .i64 r3) := Q10.out.tail.tail.tail.tail.tail.tail.tail.tail.tail.tail.tail.tail.tail.tail.tail.tail.cellOf 3 rfl
  have z14_ : y9.cell? ⟨p1, 4, none⟩ = some (.int .i64 m) := Q10.out.tail.tail.tail.tail.tail.tail.tail.tail.tail.tail.tail.tail.tail.tail.tail.tail.cellOf 4 rfl
  have z15_ : y9.cell? ⟨p1, 5, none⟩ = some (.int .u64 n) := Q10.out.tail.tail.tail.tail.tail.tail.tail.tail.tail.tail.tail.tail.tail.tail.tail.tail.cellOf 5 rfl
  have z16_ : y9.cell? ⟨p1, 6, none⟩ = some (.bool o) := Q10.out.tail.tail.tail.tail.tail.tail.tail.tail.tail.tail.tail.tail.tail.tail.tail.tail.cellOf 6 rfl
  have z20_ : y9.cell? ⟨p2, 0, none⟩ = some (.int .i64 ck) := Q10.out.tail.tail.tail.tail.tail.tail.tail.tail.tail.tail.tail.tail.tail.tail.tail.cellOf 0 rfl
  have z21_ : y9.cell? ⟨p2, 1, none⟩ = some (.int .u64 ce) := Q10.out.tail.tail.tail.tail.tail.tail.tail.tail.tail.tail.tail.tail.tail.tail.tail.cellOf 1 rfl
  have z22_ : y9.cell? ⟨p2, 2, none⟩ = some (.int .u64 cn) := Q10.out.tail.tail.tail.tail.tail.tail.tail.tail.tail.tail.tail.tail.tail.tail.tail.cellOf 2 rfl
  have z23_ : y9.cell? ⟨p2, 3, none⟩ = some (.int .i64 ct) := Q10.out.tail.tail.tail.tail.tail.tail.tail.tail.tail.tail.tail.tail.tail.tail.tail.cellOf 3 rfl
  have z30_ : y9.cell? ⟨p3, 0, none⟩ = some (.int .i64 ck) := Q10.out.tail.tail.tail.tail.tail.tail.tail.tail.tail.tail.tail.tail.tail.tail.cellOf 0 rfl
  have z31_ : y9.cell? ⟨p3, 1, none⟩ = some (.int .u64 ce) := Q10.out.tail.tail.tail.tail.tail.tail.tail.tail.tail.tail.tail.tail.tail.tail.cellOf 1 rfl
  have z32_ : y9.cell? ⟨p3, 2, none⟩ = some (.int .u64 cn) := Q10.out.tail.tail.tail.tail.tail.tail.tail.tail.tail.tail.tail.tail.tail.tail.cellOf 2 rfl
  have z33_ : y9.cell? ⟨p3, 3, none⟩ = some (.int .i64 ct) := Q10.out.tail.tail.tail.tail.tail.tail.tail.tail.tail.tail.tail.tail.tail.tail.cellOf 3 rfl
  have z40_ : y9.cell? ⟨p4, 0, none⟩ = some (.int .i64 tk) := Q10.out.tail.tail.tail.tail.tail.tail.tail.tail.tail.tail.cellOf 0 rfl
  have z41_ : y9.cell? ⟨p4, 1, none⟩ = some (.int .i64 of) := Q10.out.tail.tail.tail.tail.tail.tail.tail.tail.tail.tail.cellOf 1 rfl
  have z42_ : y9.cell? ⟨p4, 2, none⟩ = some (.int .i64 mk) := Q10.out.tail.tail.tail.tail.tail.tail.tail.tail.tail.tail.cellOf 2 rfl
  have z43_ : y9.cell? ⟨p4, 3, none⟩ = some (.slice B1 ms.length d1) := Q10.out.tail.tail.tail.tail.tail.tail.tail.tail.tail.tail.cellOf 3 rfl
  have z44_ : y9.cell? ⟨p4, 4, none⟩ = some (.slice B2 ps.length d2) := Q10.out.tail.tail.tail.tail.tail.tail.tail.tail.tail.tail.cellOf 4 rfl
  have z45_ : y9.cell? ⟨p4, 5, none⟩ = some (.slice B3 os.length d3) := Q10.out.tail.tail.tail.tail.tail.tail.tail.tail.tail.tail.cellOf 5 rfl
  have z50_ : y9.cell? ⟨p5, 0, none⟩ = some (.int .i64 tk) := Q10.out.tail.tail.tail.tail.tail.tail.cellOf 0 rfl
  have z51_ : y9.cell? ⟨p5, 1, none⟩ = some (.int .i64 of) := Q10.out.tail.tail.tail.tail.tail.tail.cellOf 1 rfl
  have z52_ : y9.cell? ⟨p5, 2, none⟩ = some (.int .i64 mk) := Q10.out.tail.tail.tail.tail.tail.tail.cellOf 2 rfl
  have z53_ : y9.cell? ⟨p5, 3, none⟩ = some (.slice D1 ms.length f1) := Q10.out.tail.tail.tail.tail.tail.tail.cellOf 3 rfl
  have z54_ : y9.cell? ⟨p5, 4, none⟩ = some (.slice D2 ps.length f2) := Q10.out.tail.tail.tail.tail.tail.tail.cellOf 4 rfl
  have z55_ : y9.cell? ⟨p5, 5, none⟩ = some (.slice D3 os.length f3) := Q10.out.tail.tail.tail.tail.tail.tail.cellOf 5 rfl
  have z60_ : y9.cell? ⟨p6, 0, none⟩ = some (.int .u64 mn) := Q10.out.tail.tail.tail.tail.cellOf 0 rfl
  have z61_ : y9.cell? ⟨p6, 1, none⟩ = some (.int .u64 me) := Q10.out.tail.tail.tail.tail.cellOf 1 rfl
  have z62_ : y9.cell? ⟨p6, 2, none⟩ = some (.slice E1 fs.length g1) := Q10.out.tail.tail.tail.tail.cellOf 2 rfl
  have z70_ : y9.cell? ⟨p7, 0, none⟩ = some (.int .u64 mn) := Q10.out.tail.tail.cellOf 0 rfl
  have z71_ : y9.cell? ⟨p7, 1, none⟩ = some (.int .u64 me) := Q10.out.tail.tail.cellOf 1 rfl
  have z72_ : y9.cell? ⟨p7, 2, none⟩ = some (.slice E2 fs.length g2) := Q10.out.tail.tail.cellOf 2 rfl
  go_wp2_with fail
  refine (sames28 tk of mk B1 B2 B3 D1 D2 D3 ms.length d1 ps.length d2 os.length d3 f1 f2 f3 ms ps os y9 W _ Q10.out (fun w' h => h.tail.tail.tail.tail.tail.tail.tail.tail.tail.tail.tail.tail.tail.ls_rd) (fun w' h => h.tail.tail.tail.tail.tail.tail.tail.tail.tail.tail.tail.tail.ls_rd) (fun w' h => h.tail.tail.tail.tail.tail.tail.tail.tail.tail.tail.tail.ls_rd) (fun w' h => h.tail.tail.tail.tail.tail.tail.tail.tail.tail.ls_rd) (fun w' h => h.tail.tail.tail.tail.tail.tail.tail.tail.ls_rd) (fun w' h => h.tail.tail.tail.tail.tail.tail.tail.ls_rd)).mono ?_
  rintro e s1 ⟨rfl, P⟩
  have Q11 := Lib.hid P
  clear P Q10
  clear z00_ z01_ z02_ z03_ z04_ z05_ z06_ z10_ z11_ z12_ z13_ z14_ z15_ z16_ z20_ z21_ z22_ z23_ z30_ z31_ z32_ z33_ z40_ z41_ z42_ z43_ z44_ z45_ z50_ z51_ z52_ z53_ z54_ z55_ z60_ z61_ z62_ z70_ z71_ z72_
  have z60_ : s1.cell? ⟨p6, 0, none⟩ = some (.int .u64 mn) := Q11.out.tail.tail.tail.tail.cellOf 0 rfl
  have z61_ : s1.cell? ⟨p6, 1, none⟩ = some (.int .u64 me) := Q11.out.tail.tail.tail.tail.cellOf 1 rfl
  have z62_ : s1.cell? ⟨p6, 2, none⟩ = some (.slice E1 fs.length g1) := Q11.out.tail.tail.tail.tail.cellOf 2 rfl
  have z70_ : s1.cell? ⟨p7, 0, none⟩ = some (.int .u64 mn) := Q11.out.tail.tail.cellOf 0 rfl
  have z71_ : s1.cell? ⟨p7, 1, none⟩ = some (.int .u64 me) := Q11.out.tail.tail.cellOf 1 rfl
  have z72_ : s1.cell? ⟨p7, 2, none⟩ = some (.slice E2 fs.length g2) := Q11.out.tail.tail.cellOf 2 rfl
  go_wp2_with fail
  refine (same32 mn me E1 E2 fs.length g1 g2 fs s1 W _ Q11.out (fun w' h => h.tail.tail.tail.tail.tail.ls_rd) (fun w' h => h.tail.tail.tail.ls_rd) hml.out).mono ?_
  rintro e s2 ⟨rfl, P⟩
  have Q12 := Lib.hid P
  clear P Q11
  clear z60_ z61_ z62_ z70_ z71_ z72_
  go_wp2_with fail
  refine (eqsame12 _ _ ys s2 W _ Q12.out Q12.out.at1.ls_rd Q12.out.ls_rd).mono ?_
  rintro e s3 ⟨rfl, P⟩
  have Q13 := Lib.hid P
  clear P Q12
  go_wp2_with fail
  refine (eqsame12 _ _ bs s3 W _ Q13.out Q13.out.tail.tail.tail.tail.tail.tail.tail.tail.tail.tail.tail.tail.tail.tail.tail.tail.tail.tail.ls_rd (r0.out.old Q13.out.tail.tail.tail.tail.tail.tail.tail.tail.tail.tail.tail.tail.tail.tail.tail.tail.tail.tail.tail)).mono ?_
  rintro e s4 ⟨rfl, P⟩
  have Q14 := Lib.hid P
  clear P Q13
  go_wp2_with fail
  go_ret
  exact ⟨rfl, Q14.out.tail.tail.tail.tail.tail.tail.tail.tail.tail.tail.tail.tail.tail.tail.tail.tail.tail.tail.tail.under_old⟩
theorem codecreads_walk2 (A : Option Addr) (nb cb : Nat) (bs : List Int) (W : World) (rr : RdL U8 W (.slice A nb cb) bs) (h : ∀ x ∈ bs, (Lit.int .u8 x).wf = true) :
    Calls Try.prog 9 #[.slice A nb cb] W fun e w' => e = .returned (.bool true) ∧ Below W.heap.size W w' := codecreads_walk A nb cb bs W rr fun x hx => by
  have := h x hx
  simp [Lit.wf, IntKind.min, IntKind.max, IntKind.signed, IntKind.bits] at this
  omega
end Go.Proofs.Ytjdkpogkhecijaa

import Derived.Test.YtjdkpogkhecijaaKn
import Derived.Test.YtjdkpogkhecijaaOc
import Derived.Test.YtjdkpogkhecijaaOf
import Derived.IntWalk
import Derived.Test.YtjdkpogkhecijaaProg
import Derived.Test.YtjdkpogkhecijaaLs
import Derived.Outline
import Derived.StillTailTactics
import Derived.Deep.DeepCutAuto
import Derived.Deep.CutBlock
import Derived.Deep.LoopGhost
import Derived.Deep.QuietTactic
import Derived.BigQuiet
import Derived.Deep.RegionHeld3
import Derived.Deep.RegionLaw
set_option linter.unusedVariables false
set_option linter.unusedSimpArgs false
namespace Go.Proofs.Ytjdkpogkhecijaa
open Go.RowKit
theorem opF_frb {f : Fr} (h : Right f) (hw : FrWf f) : opF (frb f) = (f, 0) := by
  have e := good_frame.full f [] ⟨h, hw⟩
  rw [List.append_nil] at e
  unfold opF
  rw [e]
  rfl
theorem opC_ctb {c : Ct} (h : CtOk c) (hw : CtWf c) : opC (ctb c) = (c, 0) := by
  have e := good_ct.full c [] ⟨by unfold CtOk at h; rw [p1]; omega, by rw [p8]; exact hw.1, by rw [p8]; exact hw.2, by unfold CtOk at h; rw [show (256 : Int) ^ 2 = 65536 from rfl]; omega⟩
  rw [List.append_nil] at e
  unfold opC
  rw [e, if_pos ⟨rfl, h⟩]
theorem be_eq {fn : Nat} {agg : Value} {L : List Int} {er : Int} (T : ∀ w w0 R, Hs w0 w R → Calls Try.prog fn #[agg] w (BE w0 R L er)) {L2 : List Int} {er2 : Int} {n : Nat} (h1 : L = L2) (h2 : er = er2) (h3 : L2.length = n) :
    ∀ w w0 R, Hs w0 w R → Calls Try.prog fn #[agg] w fun e w' => ∃ A c, e = .returned (.tuple #[.slice A n c, .int .i64 er2]) ∧ Hs w0 w' (Ls U8 5 (.slice A n c) L2 :: R) := by
  subst h1
  subst h2
  subst h3
  exact T
set_option maxRecDepth 100000 in
set_option maxHeartbeats 8000000 in
theorem codecframe_walk (f : Fr) (c : Ct) (W : World) (hf : FrWf f) (hc : CtWf c) : Calls Try.prog 4 #[frv f, ctv c] W fun e w' => e = .returned (.bool true) ∧ Below W.heap.size W w' := by
  have T19 := fun w w0 R h => frame19 f hf.2.2 w w0 R h
  have T20 := fun w w0 R h => rframe20 f hf.2.2 w w0 R h
  have T21 := fun w w0 R h => control21 c hc w w0 R h
  have T22 := fun w w0 R h => rcontrol22 c hc w w0 R h
  have hpF := fun h : Right f => opF_frb h hf
  have hpC := fun h : CtOk c => opC_ctb h hc
  have K := (((Hs.start W).alloc (.cells (frc f) 37)).alloc (.cells (ctc c) 39))
  rw [show (W.alloc (.cells (frc f) 37)).heap.size = W.heap.size + 1 from Array.size_push ..] at K
  have hby1 := fout_byt f
  have hby2 := cout_byt c
  obtain ⟨k, ⟨r1, r2, r3⟩, m, n, o⟩ := f
  obtain ⟨ck, ep, cn, ct⟩ := c
  clear hf hc
  replace K := Lib.hid K
  by_cases hR : Right (k, (r1, r2, r3), m, n, o) <;> by_cases hC : CtOk (ck, ep, cn, ct)
  · skip
    have fo : fout (k, (r1, r2, r3), m, n, o) = frb (k, (r1, r2, r3), m, n, o) := if_pos hR
    have fe : ferr (k, (r1, r2, r3), m, n, o) = 0 := if_pos hR
    have co : cout (ck, ep, cn, ct) = ctb (ck, ep, cn, ct) := if_pos hC
    have ce : cerr (ck, ep, cn, ct) = 0 := if_pos hC
    rw [fo] at hby1
    rw [co] at hby2
    obtain ⟨Lf, hLf⟩ : ∃ L, frb (k, (r1, r2, r3), m, n, o) = L := ⟨_, rfl⟩
    obtain ⟨Lc, hLc⟩ : ∃ L, ctb (ck, ep, cn, ct) = L := ⟨_, rfl⟩
    rw [hLf] at fo hby1
    rw [hLc] at co hby2
    have pF := hpF hR
    rw [hLf] at pF
    have pC := hpC hC
    rw [hLc] at pC
    obtain ⟨nf, hnf⟩ : ∃ n, Lf.length = n := ⟨_, rfl⟩
    obtain ⟨nc, hnc⟩ : ∃ n, Lc.length = n := ⟨_, rfl⟩
    replace T19 := Lib.hid (be_eq T19 fo fe hnf)
    replace T20 := Lib.hid (be_eq T20 fo fe hnf)
    replace T21 := Lib.hid (be_eq T21 co ce hnc)
    replace T22 := Lib.hid (be_eq T22 co ce hnc)
    have T23 : Hid (∀ v w w0 R, Hs w0 w R → (∀ w', Hs w0 w' R → RdL U8 w' v Lf) → Calls Try.prog 23 #[v] w fun e w' => e = .returned (.tuple #[.agg #[.int .i64 k, .int .i64 r1, .int .i64 r2, .int .i64 r3, .int .i64 m, .int .u64 n, .bool o], .int .i64 0]) ∧ Hs w0 w' R) := fun v w w0 R h hr => by
      have := openF23 v Lf w w0 R h hr hby1
      rw [pF] at this
      exact this
    have T24 : Hid (∀ v w w0 R, Hs w0 w R → (∀ w', Hs w0 w' R → RdL U8 w' v Lc) → Calls Try.prog 24 #[v] w fun e w' => e = .returned (.tuple #[.agg #[.int .i64 ck, .int .u64 ep, .int .u64 cn, .int .i64 ct], .int .i64 0]) ∧ Hs w0 w' R) := fun v w w0 R h hr => by
      have := openC24 v Lc w w0 R h hr hby2
      rw [pC] at this
      exact this
    clear fo fe co ce hby1 hby2 hLf hLc hpF hpC hR hC hnf hnc pF pC
    dsimp only [frv, frc, ctv, ctc] at T19 T20 T21 T22 K ⊢
    go_enter Try.func4, Try.ntmps4
    go_upto_region 1 with (fail)
    generalize World.alloc _ _ = w1 at K ⊢
    generalize W.heap.size + 1 = bc at K ⊢
    generalize hbf : W.heap.size = bf at K ⊢
    clear hbf
    go_wp2_with fail
    refine (known10 w1 W _ K.out).mono ?_
    rintro e w2 ⟨rfl, K2⟩
    have q0_ : w2.cell? ⟨bf, 0, none⟩ = some (.int .i64 k) := K2.at1.cellOf 0 rfl
    have q1_ : w2.cell? ⟨bf, 1, none⟩ = some (.int .i64 r1) := K2.at1.cellOf 1 rfl
    have q2_ : w2.cell? ⟨bf, 2, none⟩ = some (.int .i64 r2) := K2.at1.cellOf 2 rfl
    have q3_ : w2.cell? ⟨bf, 3, none⟩ = some (.int .i64 r3) := K2.at1.cellOf 3 rfl
    have q4_ : w2.cell? ⟨bf, 4, none⟩ = some (.int .i64 m) := K2.at1.cellOf 4 rfl
    have q5_ : w2.cell? ⟨bf, 5, none⟩ = some (.int .u64 n) := K2.at1.cellOf 5 rfl
    have q6_ : w2.cell? ⟨bf, 6, none⟩ = some (.bool o) := K2.at1.cellOf 6 rfl
    go_wp2_with fail
    refine (T19.out w2 W _ K2).mono ?_
    rintro e w3 ⟨A19, c19, rfl, K3⟩
    clear K K2 q0_ q1_ q2_ q3_ q4_ q5_ q6_
    have K := Lib.hid K3
    have K2 := K3
    clear K3
    have q0_ : w3.cell? ⟨bf, 0, none⟩ = some (.int .i64 k) := K2.at2.cellOf 0 rfl
    have q1_ : w3.cell? ⟨bf, 1, none⟩ = some (.int .i64 r1) := K2.at2.cellOf 1 rfl
    have q2_ : w3.cell? ⟨bf, 2, none⟩ = some (.int .i64 r2) := K2.at2.cellOf 2 rfl
    have q3_ : w3.cell? ⟨bf, 3, none⟩ = some (.int .i64 r3) := K2.at2.cellOf 3 rfl
    have q4_ : w3.cell? ⟨bf, 4, none⟩ = some (.int .i64 m) := K2.at2.cellOf 4 rfl
    have q5_ : w3.cell? ⟨bf, 5, none⟩ = some (.int .u64 n) := K2.at2.cellOf 5 rfl
    have q6_ : w3.cell? ⟨bf, 6, none⟩ = some (.bool o) := K2.at2.cellOf 6 rfl
    go_wp2_with fail
    refine (T20.out w3 W _ K2).mono ?_
    rintro e w4 ⟨A20, c20, rfl, K3⟩
    clear K K2 q0_ q1_ q2_ q3_ q4_ q5_ q6_
    have K := Lib.hid K3
    have K2 := K3
    clear K3
    have q0_ : w4.cell? ⟨bc, 0, none⟩ = some (.int .i64 ck) := K2.at2.cellOf 0 rfl
    have q1_ : w4.cell? ⟨bc, 1, none⟩ = some (.int .u64 ep) := K2.at2.cellOf 1 rfl
    have q2_ : w4.cell? ⟨bc, 2, none⟩ = some (.int .u64 cn) := K2.at2.cellOf 2 rfl
    have q3_ : w4.cell? ⟨bc, 3, none⟩ = some (.int .i64 ct) := K2.at2.cellOf 3 rfl
    go_wp2_with fail
    refine (T21.out w4 W _ K2).mono ?_
    rintro e w5 ⟨A21, c21, rfl, K3⟩
    clear K K2 q0_ q1_ q2_ q3_
    have K := Lib.hid K3
    have K2 := K3
    clear K3
    have q0_ : w5.cell? ⟨bc, 0, none⟩ = some (.int .i64 ck) := K2.at3.cellOf 0 rfl
    have q1_ : w5.cell? ⟨bc, 1, none⟩ = some (.int .u64 ep) := K2.at3.cellOf 1 rfl
    have q2_ : w5.cell? ⟨bc, 2, none⟩ = some (.int .u64 cn) := K2.at3.cellOf 2 rfl
    have q3_ : w5.cell? ⟨bc, 3, none⟩ = some (.int .i64 ct) := K2.at3.cellOf 3 rfl
    go_wp2_with fail
    refine (T22.out w5 W _ K2).mono ?_
    rintro e w6 ⟨A22, c22, rfl, K3⟩
    clear K K2 q0_ q1_ q2_ q3_
    have K := Lib.hid K3
    have K2 := K3
    clear K3
    clear K2
    go_wp2_with fail
    refine (eqsame12 _ _ Lf w6 W _ K.out K.out.at3.ls_rd K.out.at2.ls_rd).mono ?_
    rintro e w7 ⟨rfl, K2⟩
    replace K2 := Lib.hid K2
    clear K
    go_wp2_with fail
    refine (eqsame12 _ _ Lc w7 W _ K2.out K2.out.at1.ls_rd K2.out.ls_rd).mono ?_
    rintro e w8 ⟨rfl, K3⟩
    have K := Lib.hid K3
    clear K2 K3
    go_wp2_with fail
    refine (T23.out (.slice A19 nf c19) w8 W _ K.out (fun w' h => h.at3.ls_rd)).mono ?_
    rintro e w9 ⟨rfl, K2⟩
    have K3 := Lib.hid (K2.alloc (.cells #[.int .i64 k, .int .i64 r1, .int .i64 r2, .int .i64 r3, .int .i64 m, .int .u64 n, .bool o] 37))
    clear K K2
    go_upto_region 11 with (fail)
    generalize World.alloc w9 _ = wa at K3 ⊢
    generalize w9.heap.size = bx at K3 ⊢
    have x0_ : wa.cell? ⟨bx, 0, none⟩ = some (.int .i64 k) := K3.out.cellOf 0 rfl
    have x1_ : wa.cell? ⟨bx, 1, none⟩ = some (.int .i64 r1) := K3.out.cellOf 1 rfl
    have x2_ : wa.cell? ⟨bx, 2, none⟩ = some (.int .i64 r2) := K3.out.cellOf 2 rfl
    have x3_ : wa.cell? ⟨bx, 3, none⟩ = some (.int .i64 r3) := K3.out.cellOf 3 rfl
    have x4_ : wa.cell? ⟨bx, 4, none⟩ = some (.int .i64 m) := K3.out.cellOf 4 rfl
    have x5_ : wa.cell? ⟨bx, 5, none⟩ = some (.int .u64 n) := K3.out.cellOf 5 rfl
    have x6_ : wa.cell? ⟨bx, 6, none⟩ = some (.bool o) := K3.out.cellOf 6 rfl
    have q0_ : wa.cell? ⟨bf, 0, none⟩ = some (.int .i64 k) := K3.out.at6.cellOf 0 rfl
    have q1_ : wa.cell? ⟨bf, 1, none⟩ = some (.int .i64 r1) := K3.out.at6.cellOf 1 rfl
    have q2_ : wa.cell? ⟨bf, 2, none⟩ = some (.int .i64 r2) := K3.out.at6.cellOf 2 rfl
    have q3_ : wa.cell? ⟨bf, 3, none⟩ = some (.int .i64 r3) := K3.out.at6.cellOf 3 rfl
    have q4_ : wa.cell? ⟨bf, 4, none⟩ = some (.int .i64 m) := K3.out.at6.cellOf 4 rfl
    have q5_ : wa.cell? ⟨bf, 5, none⟩ = some (.int .u64 n) := K3.out.at6.cellOf 5 rfl
    have q6_ : wa.cell? ⟨bf, 6, none⟩ = some (.bool o) := K3.out.at6.cellOf 6 rfl
    have K := Lib.hid K3.out.tail
    go_wp2_with fail
    refine (T24.out (.slice A21 nc c21) wa W _ K.out (fun w' h => h.at1.ls_rd)).mono ?_
    rintro e wb ⟨rfl, K2⟩
    have K4 := Lib.hid (K2.alloc (.cells #[.int .i64 ck, .int .u64 ep, .int .u64 cn, .int .i64 ct] 39))
    clear K K2
    go_upto_region 15 with (fail)
    generalize World.alloc wb _ = wd at K4 ⊢
    generalize wb.heap.size = by_ at K4 ⊢
    have y0_ : wd.cell? ⟨by_, 0, none⟩ = some (.int .i64 ck) := K4.out.cellOf 0 rfl
    have y1_ : wd.cell? ⟨by_, 1, none⟩ = some (.int .u64 ep) := K4.out.cellOf 1 rfl
    have y2_ : wd.cell? ⟨by_, 2, none⟩ = some (.int .u64 cn) := K4.out.cellOf 2 rfl
    have y3_ : wd.cell? ⟨by_, 3, none⟩ = some (.int .i64 ct) := K4.out.cellOf 3 rfl
    have z0_ : wd.cell? ⟨bc, 0, none⟩ = some (.int .i64 ck) := K4.out.at5.cellOf 0 rfl
    have z1_ : wd.cell? ⟨bc, 1, none⟩ = some (.int .u64 ep) := K4.out.at5.cellOf 1 rfl
    have z2_ : wd.cell? ⟨bc, 2, none⟩ = some (.int .u64 cn) := K4.out.at5.cellOf 2 rfl
    have z3_ : wd.cell? ⟨bc, 3, none⟩ = some (.int .i64 ct) := K4.out.at5.cellOf 3 rfl
    go_wp2_with fail
    go_ret
    exact ⟨rfl, K4.out.tail.tail.tail.tail.tail.tail.tail.under_old⟩
  · skip
    have fo : fout (k, (r1, r2, r3), m, n, o) = frb (k, (r1, r2, r3), m, n, o) := if_pos hR
    have fe : ferr (k, (r1, r2, r3), m, n, o) = 0 := if_pos hR
    have co : cout (ck, ep, cn, ct) = ([] : List Int) := if_neg hC
    have ce : cerr (ck, ep, cn, ct) = 10 := if_neg hC
    rw [fo] at hby1
    rw [co] at hby2
    obtain ⟨Lf, hLf⟩ : ∃ L, frb (k, (r1, r2, r3), m, n, o) = L := ⟨_, rfl⟩
    obtain ⟨Lc, hLc⟩ : ∃ L, ([] : List Int) = L := ⟨_, rfl⟩
    rw [hLf] at fo hby1
    rw [hLc] at co hby2
    have pF := hpF hR
    rw [hLf] at pF
    obtain ⟨nf, hnf⟩ : ∃ n, Lf.length = n := ⟨_, rfl⟩
    obtain ⟨nc, hnc⟩ : ∃ n, Lc.length = n := ⟨_, rfl⟩
    replace T19 := Lib.hid (be_eq T19 fo fe hnf)
    replace T20 := Lib.hid (be_eq T20 fo fe hnf)
    replace T21 := Lib.hid (be_eq T21 co ce hnc)
    replace T22 := Lib.hid (be_eq T22 co ce hnc)
    have T23 : Hid (∀ v w w0 R, Hs w0 w R → (∀ w', Hs w0 w' R → RdL U8 w' v Lf) → Calls Try.prog 23 #[v] w fun e w' => e = .returned (.tuple #[.agg #[.int .i64 k, .int .i64 r1, .int .i64 r2, .int .i64 r3, .int .i64 m, .int .u64 n, .bool o], .int .i64 0]) ∧ Hs w0 w' R) := fun v w w0 R h hr => by
      have := openF23 v Lf w w0 R h hr hby1
      rw [pF] at this
      exact this
    clear fo fe co ce hby1 hby2 hLf hLc hpF hpC hR hC hnf hnc pF
    dsimp only [frv, frc, ctv, ctc] at T19 T20 T21 T22 K ⊢
    go_enter Try.func4, Try.ntmps4
    go_upto_region 1 with (fail)
    generalize World.alloc _ _ = w1 at K ⊢
    generalize W.heap.size + 1 = bc at K ⊢
    generalize hbf : W.heap.size = bf at K ⊢
    clear hbf
    go_wp2_with fail
    refine (known10 w1 W _ K.out).mono ?_
    rintro e w2 ⟨rfl, K2⟩
    have q0_ : w2.cell? ⟨bf, 0, none⟩ = some (.int .i64 k) := K2.at1.cellOf 0 rfl
    have q1_ : w2.cell? ⟨bf, 1, none⟩ = some (.int .i64 r1) := K2.at1.cellOf 1 rfl
    have q2_ : w2.cell? ⟨bf, 2, none⟩ = some (.int .i64 r2) := K2.at1.cellOf 2 rfl
    have q3_ : w2.cell? ⟨bf, 3, none⟩ = some (.int .i64 r3) := K2.at1.cellOf 3 rfl
    have q4_ : w2.cell? ⟨bf, 4, none⟩ = some (.int .i64 m) := K2.at1.cellOf 4 rfl
    have q5_ : w2.cell? ⟨bf, 5, none⟩ = some (.int .u64 n) := K2.at1.cellOf 5 rfl
    have q6_ : w2.cell? ⟨bf, 6, none⟩ = some (.bool o) := K2.at1.cellOf 6 rfl
    go_wp2_with fail
    refine (T19.out w2 W _ K2).mono ?_
    rintro e w3 ⟨A19, c19, rfl, K3⟩
    clear K K2 q0_ q1_ q2_ q3_ q4_ q5_ q6_
    have K := Lib.hid K3
    have K2 := K3
    clear K3
    have q0_ : w3.cell? ⟨bf, 0, none⟩ = some (.int .i64 k) := K2.at2.cellOf 0 rfl
    have q1_ : w3.cell? ⟨bf, 1, none⟩ = some (.int .i64 r1) := K2.at2.cellOf 1 rfl
    have q2_ : w3.cell? ⟨bf, 2, none⟩ = some (.int .i64 r2) := K2.at2.cellOf 2 rfl
    have q3_ : w3.cell? ⟨bf, 3, none⟩ = some (.int .i64 r3) := K2.at2.cellOf 3 rfl
    have q4_ : w3.cell? ⟨bf, 4, none⟩ = some (.int .i64 m) := K2.at2.cellOf 4 rfl
    have q5_ : w3.cell? ⟨bf, 5, none⟩ = some (.int .u64 n) := K2.at2.cellOf 5 rfl
    have q6_ : w3.cell? ⟨bf, 6, none⟩ = some (.bool o) := K2.at2.cellOf 6 rfl
    go_wp2_with fail
    refine (T20.out w3 W _ K2).mono ?_
    rintro e w4 ⟨A20, c20, rfl, K3⟩
    clear K K2 q0_ q1_ q2_ q3_ q4_ q5_ q6_
    have K := Lib.hid K3
    have K2 := K3
    clear K3
    have q0_ : w4.cell? ⟨bc, 0, none⟩ = some (.int .i64 ck) := K2.at2.cellOf 0 rfl
    have q1_ : w4.cell? ⟨bc, 1, none⟩ = some (.int .u64 ep) := K2.at2.cellOf 1 rfl
    have q2_ : w4.cell? ⟨bc, 2, none⟩ = some (.int .u64 cn) := K2.at2.cellOf 2 rfl
    have q3_ : w4.cell? ⟨bc, 3, none⟩ = some (.int .i64 ct) := K2.at2.cellOf 3 rfl
    go_wp2_with fail
    refine (T21.out w4 W _ K2).mono ?_
    rintro e w5 ⟨A21, c21, rfl, K3⟩
    clear K K2 q0_ q1_ q2_ q3_
    have K := Lib.hid K3
    have K2 := K3
    clear K3
    have q0_ : w5.cell? ⟨bc, 0, none⟩ = some (.int .i64 ck) := K2.at3.cellOf 0 rfl
    have q1_ : w5.cell? ⟨bc, 1, none⟩ = some (.int .u64 ep) := K2.at3.cellOf 1 rfl
    have q2_ : w5.cell? ⟨bc, 2, none⟩ = some (.int .u64 cn) := K2.at3.cellOf 2 rfl
    have q3_ : w5.cell? ⟨bc, 3, none⟩ = some (.int .i64 ct) := K2.at3.cellOf 3 rfl
    go_wp2_with fail
    refine (T22.out w5 W _ K2).mono ?_
    rintro e w6 ⟨A22, c22, rfl, K3⟩
    clear K K2 q0_ q1_ q2_ q3_
    have K := Lib.hid K3
    have K2 := K3
    clear K3
    clear K2
    go_wp2_with fail
    refine (eqsame12 _ _ Lf w6 W _ K.out K.out.at3.ls_rd K.out.at2.ls_rd).mono ?_
    rintro e w7 ⟨rfl, K2⟩
    replace K2 := Lib.hid K2
    clear K
    go_wp2_with fail
    refine (eqsame12 _ _ Lc w7 W _ K2.out K2.out.at1.ls_rd K2.out.ls_rd).mono ?_
    rintro e w8 ⟨rfl, K3⟩
    have K := Lib.hid K3
    clear K2 K3
    go_wp2_with fail
    refine (T23.out (.slice A19 nf c19) w8 W _ K.out (fun w' h => h.at3.ls_rd)).mono ?_
    rintro e w9 ⟨rfl, K2⟩
    have K3 := Lib.hid (K2.alloc (.cells #[.int .i64 k, .int .i64 r1, .int .i64 r2, .int .i64 r3, .int .i64 m, .int .u64 n, .bool o] 37))
    clear K K2
    go_upto_region 11 with (fail)
    generalize World.alloc w9 _ = wa at K3 ⊢
    generalize w9.heap.size = bx at K3 ⊢
    have x0_ : wa.cell? ⟨bx, 0, none⟩ = some (.int .i64 k) := K3.out.cellOf 0 rfl
    have x1_ : wa.cell? ⟨bx, 1, none⟩ = some (.int .i64 r1) := K3.out.cellOf 1 rfl
    have x2_ : wa.cell? ⟨bx, 2, none⟩ = some (.int .i64 r2) := K3.out.cellOf 2 rfl
    have x3_ : wa.cell? ⟨bx, 3, none⟩ = some (.int .i64 r3) := K3.out.cellOf 3 rfl
    have x4_ : wa.cell? ⟨bx, 4, none⟩ = some (.int .i64 m) := K3.out.cellOf 4 rfl
    have x5_ : wa.cell? ⟨bx, 5, none⟩ = some (.int .u64 n) := K3.out.cellOf 5 rfl
    have x6_ : wa.cell? ⟨bx, 6, none⟩ = some (.bool o) := K3.out.cellOf 6 rfl
    have q0_ : wa.cell? ⟨bf, 0, none⟩ = some (.int .i64 k) := K3.out.at6.cellOf 0 rfl
    have q1_ : wa.cell? ⟨bf, 1, none⟩ = some (.int .i64 r1) := K3.out.at6.cellOf 1 rfl
    have q2_ : wa.cell? ⟨bf, 2, none⟩ = some (.int .i64 r2) := K3.out.at6.cellOf 2 rfl
    have q3_ : wa.cell? ⟨bf, 3, none⟩ = some (.int .i64 r3) := K3.out.at6.cellOf 3 rfl
    have q4_ : wa.cell? ⟨bf, 4, none⟩ = some (.int .i64 m) := K3.out.at6.cellOf 4 rfl
    have q5_ : wa.cell? ⟨bf, 5, none⟩ = some (.int .u64 n) := K3.out.at6.cellOf 5 rfl
    have q6_ : wa.cell? ⟨bf, 6, none⟩ = some (.bool o) := K3.out.at6.cellOf 6 rfl
    have K := Lib.hid K3.out.tail
    go_wp2_with fail
    go_ret
    exact ⟨rfl, K.out.tail.tail.tail.tail.tail.tail.under_old⟩
  · skip
    have fo : fout (k, (r1, r2, r3), m, n, o) = ([] : List Int) := if_neg hR
    have fe : ferr (k, (r1, r2, r3), m, n, o) = 10 := if_neg hR
    have co : cout (ck, ep, cn, ct) = ctb (ck, ep, cn, ct) := if_pos hC
    have ce : cerr (ck, ep, cn, ct) = 0 := if_pos hC
    rw [fo] at hby1
    rw [co] at hby2
    obtain ⟨Lf, hLf⟩ : ∃ L, ([] : List Int) = L := ⟨_, rfl⟩
    obtain ⟨Lc, hLc⟩ : ∃ L, ctb (ck, ep, cn, ct) = L := ⟨_, rfl⟩
    rw [hLf] at fo hby1
    rw [hLc] at co hby2
    have pC := hpC hC
    rw [hLc] at pC
    obtain ⟨nf, hnf⟩ : ∃ n, Lf.length = n := ⟨_, rfl⟩
    obtain ⟨nc, hnc⟩ : ∃ n, Lc.length = n := ⟨_, rfl⟩
    replace T19 := Lib.hid (be_eq T19 fo fe hnf)
    replace T20 := Lib.hid (be_eq T20 fo fe hnf)
    replace T21 := Lib.hid (be_eq T21 co ce hnc)
    replace T22 := Lib.hid (be_eq T22 co ce hnc)
    have T24 : Hid (∀ v w w0 R, Hs w0 w R → (∀ w', Hs w0 w' R → RdL U8 w' v Lc) → Calls Try.prog 24 #[v] w fun e w' => e = .returned (.tuple #[.agg #[.int .i64 ck, .int .u64 ep, .int .u64 cn, .int .i64 ct], .int .i64 0]) ∧ Hs w0 w' R) := fun v w w0 R h hr => by
      have := openC24 v Lc w w0 R h hr hby2
      rw [pC] at this
      exact this
    clear fo fe co ce hby1 hby2 hLf hLc hpF hpC hR hC hnf hnc pC
    dsimp only [frv, frc, ctv, ctc] at T19 T20 T21 T22 K ⊢
    go_enter Try.func4, Try.ntmps4
    go_upto_region 1 with (fail)
    generalize World.alloc _ _ = w1 at K ⊢
    generalize W.heap.size + 1 = bc at K ⊢
    generalize hbf : W.heap.size = bf at K ⊢
    clear hbf
    go_wp2_with fail
    refine (known10 w1 W _ K.out).mono ?_
    rintro e w2 ⟨rfl, K2⟩
    have q0_ : w2.cell? ⟨bf, 0, none⟩ = some (.int .i64 k) := K2.at1.cellOf 0 rfl
    have q1_ : w2.cell? ⟨bf, 1, none⟩ = some (.int .i64 r1) := K2.at1.cellOf 1 rfl
    have q2_ : w2.cell? ⟨bf, 2, none⟩ = some (.int .i64 r2) := K2.at1.cellOf 2 rfl
    have q3_ : w2.cell? ⟨bf, 3, none⟩ = some (.int .i64 r3) := K2.at1.cellOf 3 rfl
    have q4_ : w2.cell? ⟨bf, 4, none⟩ = some (.int .i64 m) := K2.at1.cellOf 4 rfl
    have q5_ : w2.cell? ⟨bf, 5, none⟩ = some (.int .u64 n) := K2.at1.cellOf 5 rfl
    have q6_ : w2.cell? ⟨bf, 6, none⟩ = some (.bool o) := K2.at1.cellOf 6 rfl
    go_wp2_with fail
    refine (T19.out w2 W _ K2).mono ?_
    rintro e w3 ⟨A19, c19, rfl, K3⟩
    clear K K2 q0_ q1_ q2_ q3_ q4_ q5_ q6_
    have K := Lib.hid K3
    have K2 := K3
    clear K3
    have q0_ : w3.cell? ⟨bf, 0, none⟩ = some (.int .i64 k) := K2.at2.cellOf 0 rfl
    have q1_ : w3.cell? ⟨bf, 1, none⟩ = some (.int .i64 r1) := K2.at2.cellOf 1 rfl
    have q2_ : w3.cell? ⟨bf, 2, none⟩ = some (.int .i64 r2) := K2.at2.cellOf 2 rfl
    have q3_ : w3.cell? ⟨bf, 3, none⟩ = some (.int .i64 r3) := K2.at2.cellOf 3 rfl
    have q4_ : w3.cell? ⟨bf, 4, none⟩ = some (.int .i64 m) := K2.at2.cellOf 4 rfl
    have q5_ : w3.cell? ⟨bf, 5, none⟩ = some (.int .u64 n) := K2.at2.cellOf 5 rfl
    have q6_ : w3.cell? ⟨bf, 6, none⟩ = some (.bool o) := K2.at2.cellOf 6 rfl
    go_wp2_with fail
    refine (T20.out w3 W _ K2).mono ?_
    rintro e w4 ⟨A20, c20, rfl, K3⟩
    clear K K2 q0_ q1_ q2_ q3_ q4_ q5_ q6_
    have K := Lib.hid K3
    have K2 := K3
    clear K3
    have q0_ : w4.cell? ⟨bc, 0, none⟩ = some (.int .i64 ck) := K2.at2.cellOf 0 rfl
    have q1_ : w4.cell? ⟨bc, 1, none⟩ = some (.int .u64 ep) := K2.at2.cellOf 1 rfl
    have q2_ : w4.cell? ⟨bc, 2, none⟩ = some (.int .u64 cn) := K2.at2.cellOf 2 rfl
    have q3_ : w4.cell? ⟨bc, 3, none⟩ = some (.int .i64 ct) := K2.at2.cellOf 3 rfl
    go_wp2_with fail
    refine (T21.out w4 W _ K2).mono ?_
    rintro e w5 ⟨A21, c21, rfl, K3⟩
    clear K K2 q0_ q1_ q2_ q3_
    have K := Lib.hid K3
    have K2 := K3
    clear K3
    have q0_ : w5.cell? ⟨bc, 0, none⟩ = some (.int .i64 ck) := K2.at3.cellOf 0 rfl
    have q1_ : w5.cell? ⟨bc, 1, none⟩ = some (.int .u64 ep) := K2.at3.cellOf 1 rfl
    have q2_ : w5.cell? ⟨bc, 2, none⟩ = some (.int .u64 cn) := K2.at3.cellOf 2 rfl
    have q3_ : w5.cell? ⟨bc, 3, none⟩ = some (.int .i64 ct) := K2.at3.cellOf 3 rfl
    go_wp2_with fail
    refine (T22.out w5 W _ K2).mono ?_
    rintro e w6 ⟨A22, c22, rfl, K3⟩
    clear K K2 q0_ q1_ q2_ q3_
    have K := Lib.hid K3
    have K2 := K3
    clear K3
    clear K2
    go_wp2_with fail
    refine (eqsame12 _ _ Lf w6 W _ K.out K.out.at3.ls_rd K.out.at2.ls_rd).mono ?_
    rintro e w7 ⟨rfl, K2⟩
    replace K2 := Lib.hid K2
    clear K
    go_wp2_with fail
    refine (eqsame12 _ _ Lc w7 W _ K2.out K2.out.at1.ls_rd K2.out.ls_rd).mono ?_
    rintro e w8 ⟨rfl, K3⟩
    have K := Lib.hid K3
    clear K2 K3
    go_wp2_with fail
    refine (T24.out (.slice A21 nc c21) w8 W _ K.out (fun w' h => h.at1.ls_rd)).mono ?_
    rintro e wb ⟨rfl, K2⟩
    have K4 := Lib.hid (K2.alloc (.cells #[.int .i64 ck, .int .u64 ep, .int .u64 cn, .int .i64 ct] 39))
    clear K K2
    go_upto_region 15 with (fail)
    generalize World.alloc wb _ = wd at K4 ⊢
    generalize wb.heap.size = by_ at K4 ⊢
    have y0_ : wd.cell? ⟨by_, 0, none⟩ = some (.int .i64 ck) := K4.out.cellOf 0 rfl
    have y1_ : wd.cell? ⟨by_, 1, none⟩ = some (.int .u64 ep) := K4.out.cellOf 1 rfl
    have y2_ : wd.cell? ⟨by_, 2, none⟩ = some (.int .u64 cn) := K4.out.cellOf 2 rfl
    have y3_ : wd.cell? ⟨by_, 3, none⟩ = some (.int .i64 ct) := K4.out.cellOf 3 rfl
    have z0_ : wd.cell? ⟨bc, 0, none⟩ = some (.int .i64 ck) := K4.out.at5.cellOf 0 rfl
    have z1_ : wd.cell? ⟨bc, 1, none⟩ = some (.int .u64 ep) := K4.out.at5.cellOf 1 rfl
    have z2_ : wd.cell? ⟨bc, 2, none⟩ = some (.int .u64 cn) := K4.out.at5.cellOf 2 rfl
    have z3_ : wd.cell? ⟨bc, 3, none⟩ = some (.int .i64 ct) := K4.out.at5.cellOf 3 rfl
    go_wp2_with fail
    go_ret
    exact ⟨rfl, K4.out.tail.tail.tail.tail.tail.tail.tail.under_old⟩
  · skip
    have fo : fout (k, (r1, r2, r3), m, n, o) = ([] : List Int) := if_neg hR
    have fe : ferr (k, (r1, r2, r3), m, n, o) = 10 := if_neg hR
    have co : cout (ck, ep, cn, ct) = ([] : List Int) := if_neg hC
    have ce : cerr (ck, ep, cn, ct) = 10 := if_neg hC
    rw [fo] at hby1
    rw [co] at hby2
    obtain ⟨Lf, hLf⟩ : ∃ L, ([] : List Int) = L := ⟨_, rfl⟩
    obtain ⟨Lc, hLc⟩ : ∃ L, ([] : List Int) = L := ⟨_, rfl⟩
    rw [hLf] at fo hby1
    rw [hLc] at co hby2
    obtain ⟨nf, hnf⟩ : ∃ n, Lf.length = n := ⟨_, rfl⟩
    obtain ⟨nc, hnc⟩ : ∃ n, Lc.length = n := ⟨_, rfl⟩
    replace T19 := Lib.hid (be_eq T19 fo fe hnf)
    replace T20 := Lib.hid (be_eq T20 fo fe hnf)
    replace T21 := Lib.hid (be_eq T21 co ce hnc)
    replace T22 := Lib.hid (be_eq T22 co ce hnc)
    clear fo fe co ce hby1 hby2 hLf hLc hpF hpC hR hC hnf hnc
    dsimp only [frv, frc, ctv, ctc] at T19 T20 T21 T22 K ⊢
    go_enter Try.func4, Try.ntmps4
    go_upto_region 1 with (fail)
    generalize World.alloc _ _ = w1 at K ⊢
    generalize W.heap.size + 1 = bc at K ⊢
    generalize hbf : W.heap.size = bf at K ⊢
    clear hbf
    go_wp2_with fail
    refine (known10 w1 W _ K.out).mono ?_
    rintro e w2 ⟨rfl, K2⟩
    have q0_ : w2.cell? ⟨bf, 0, none⟩ = some (.int .i64 k) := K2.at1.cellOf 0 rfl
    have q1_ : w2.cell? ⟨bf, 1, none⟩ = some (.int .i64 r1) := K2.at1.cellOf 1 rfl
    have q2_ : w2.cell? ⟨bf, 2, none⟩ = some (.int .i64 r2) := K2.at1.cellOf 2 rfl
    have q3_ : w2.cell? ⟨bf, 3, none⟩ = some (.int .i64 r3) := K2.at1.cellOf 3 rfl
    have q4_ : w2.cell? ⟨bf, 4, none⟩ = some (.int .i64 m) := K2.at1.cellOf 4 rfl
    have q5_ : w2.cell? ⟨bf, 5, none⟩ = some (.int .u64 n) := K2.at1.cellOf 5 rfl
    have q6_ : w2.cell? ⟨bf, 6, none⟩ = some (.bool o) := K2.at1.cellOf 6 rfl
    go_wp2_with fail
    refine (T19.out w2 W _ K2).mono ?_
    rintro e w3 ⟨A19, c19, rfl, K3⟩
    clear K K2 q0_ q1_ q2_ q3_ q4_ q5_ q6_
    have K := Lib.hid K3
    have K2 := K3
    clear K3
    have q0_ : w3.cell? ⟨bf, 0, none⟩ = some (.int .i64 k) := K2.at2.cellOf 0 rfl
    have q1_ : w3.cell? ⟨bf, 1, none⟩ = some (.int .i64 r1) := K2.at2.cellOf 1 rfl
    have q2_ : w3.cell? ⟨bf, 2, none⟩ = some (.int .i64 r2) := K2.at2.cellOf 2 rfl
    have q3_ : w3.cell? ⟨bf, 3, none⟩ = some (.int .i64 r3) := K2.at2.cellOf 3 rfl
    have q4_ : w3.cell? ⟨bf, 4, none⟩ = some (.int .i64 m) := K2.at2.cellOf 4 rfl
    have q5_ : w3.cell? ⟨bf, 5, none⟩ = some (.int .u64 n) := K2.at2.cellOf 5 rfl
    have q6_ : w3.cell? ⟨bf, 6, none⟩ = some (.bool o) := K2.at2.cellOf 6 rfl
    go_wp2_with fail
    refine (T20.out w3 W _ K2).mono ?_
    rintro e w4 ⟨A20, c20, rfl, K3⟩
    clear K K2 q0_ q1_ q2_ q3_ q4_ q5_ q6_
    have K := Lib.hid K3
    have K2 := K3
    clear K3
    have q0_ : w4.cell? ⟨bc, 0, none⟩ = some (.int .i64 ck) := K2.at2.cellOf 0 rfl
    have q1_ : w4.cell? ⟨bc, 1, none⟩ = some (.int .u64 ep) := K2.at2.cellOf 1 rfl
    have q2_ : w4.cell? ⟨bc, 2, none⟩ = some (.int .u64 cn) := K2.at2.cellOf 2 rfl
    have q3_ : w4.cell? ⟨bc, 3, none⟩ = some (.int .i64 ct) := K2.at2.cellOf 3 rfl
    go_wp2_with fail
    refine (T21.out w4 W _ K2).mono ?_
    rintro e w5 ⟨A21, c21, rfl, K3⟩
    clear K K2 q0_ q1_ q2_ q3_
    have K := Lib.hid K3
    have K2 := K3
    clear K3
    have q0_ : w5.cell? ⟨bc, 0, none⟩ = some (.int .i64 ck) := K2.at3.cellOf 0 rfl
    have q1_ : w5.cell? ⟨bc, 1, none⟩ = some (.int .u64 ep) := K2.at3.cellOf 1 rfl
    have q2_ : w5.cell? ⟨bc, 2, none⟩ = some (.int .u64 cn) := K2.at3.cellOf 2 rfl
    have q3_ : w5.cell? ⟨bc, 3, none⟩ = some (.int .i64 ct) := K2.at3.cellOf 3 rfl
    go_wp2_with fail
    refine (T22.out w5 W _ K2).mono ?_
    rintro e w6 ⟨A22, c22, rfl, K3⟩
    clear K K2 q0_ q1_ q2_ q3_
    have K := Lib.hid K3
    have K2 := K3
    clear K3
    clear K2
    go_wp2_with fail
    refine (eqsame12 _ _ Lf w6 W _ K.out K.out.at3.ls_rd K.out.at2.ls_rd).mono ?_
    rintro e w7 ⟨rfl, K2⟩
    replace K2 := Lib.hid K2
    clear K
    go_wp2_with fail
    refine (eqsame12 _ _ Lc w7 W _ K2.out K2.out.at1.ls_rd K2.out.ls_rd).mono ?_
    rintro e w8 ⟨rfl, K3⟩
    have K := Lib.hid K3
    clear K2 K3
    go_wp2_with fail
    go_ret
    exact ⟨rfl, K.out.tail.tail.tail.tail.tail.tail.under_old⟩
theorem i64_of {x : Int} (h : (Lit.int .i64 x).wf = true) : I64 x := by
  simp [Lit.wf, IntKind.min, IntKind.max, IntKind.signed, IntKind.bits] at h
  exact ⟨by omega, by omega⟩
theorem u64_of {x : Int} (h : (Lit.int .u64 x).wf = true) : U64 x := by
  simp [Lit.wf, IntKind.min, IntKind.max, IntKind.signed, IntKind.bits] at h
  exact ⟨by omega, by omega⟩
theorem byt_ok {l : List Int} (h : ∀ x ∈ l, (Lit.int .u8 x).wf = true) : Byt l := fun x hx => by
  have := h x hx
  simp [Lit.wf, IntKind.min, IntKind.max, IntKind.signed, IntKind.bits] at this
  omega
theorem frwf_of {f : Fr} (h : (Lit.int .i64 f.1).wf = true ∧ ((Lit.int .i64 f.2.1.1).wf = true ∧ (Lit.int .i64 f.2.1.2.1).wf = true ∧ (Lit.int .i64 f.2.1.2.2).wf = true) ∧ (Lit.int .i64 f.2.2.1).wf = true ∧ (Lit.int .u64 f.2.2.2.1).wf = true ∧ True) : FrWf f := by
  obtain ⟨_, ⟨h1, h2, h3⟩, h4, h5, _⟩ := h
  exact ⟨⟨i64_of h1, i64_of h2, i64_of h3⟩, i64_of h4, u64_of h5⟩
theorem ctwf_of {c : Ct} (h : (Lit.int .i64 c.1).wf = true ∧ (Lit.int .u64 c.2.1).wf = true ∧ (Lit.int .u64 c.2.2.1).wf = true ∧ (Lit.int .i64 c.2.2.2).wf = true) : CtWf c := ⟨u64_of h.2.1, u64_of h.2.2.1⟩
theorem codecframe_walk2 (f : Fr) (c : Ct) (W : World) (hf : FrWf f) (hc : CtWf c) : Calls Try.prog 4 #[.agg (frc f), .agg (ctc c)] W fun e w' => e = .returned (.bool true) ∧ Below W.heap.size W w' := codecframe_walk f c W hf hc
end Go.Proofs.Ytjdkpogkhecijaa

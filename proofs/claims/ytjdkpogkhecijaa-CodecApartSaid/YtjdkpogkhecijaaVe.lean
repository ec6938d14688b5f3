import Derived.Test.YtjdkpogkhecijaaVd
import Derived.Test.YtjdkpogkhecijaaUg
import Derived.Test.YtjdkpogkhecijaaTa
import Derived.Test.YtjdkpogkhecijaaUi
import Derived.Test.YtjdkpogkhecijaaKn
import Derived.Test.YtjdkpogkhecijaaCt
import Derived.IntWalk
import Derived.Test.YtjdkpogkhecijaaProg
import Derived.Test.YtjdkpogkhecijaaLs
import Derived.Outline
import Derived.StillTailTactics
import Derived.Deep.DeepCutAuto
import Derived.Deep.CutBlock
import Derived.Deep.LoopGhost
import Derived.Deep.QuietTactic
import Derived.BigQuiet
import Derived.Deep.RegionHeld3
import Derived.Deep.RegionLaw
set_option linter.unusedVariables false
set_option linter.unusedSimpArgs false
namespace Go.Proofs.Ytjdkpogkhecijaa
open Go.RowKit
theorem asz (w : World) (o : Obj) : (w.alloc o).heap.size = w.heap.size + 1 := Array.size_push ..
theorem be_gen {fn : Nat} {agg : Value} {L : List Int} {er : Int} (T : ∀ w w0 R, Hs w0 w R → Calls Try.prog fn #[agg] w (BE w0 R L er)) {L2 : List Int} {er2 : Int} (h1 : L = L2) (h2 : er = er2) : ∀ w w0 R, Hs w0 w R → Calls Try.prog fn #[agg] w (BE w0 R L2 er2) := by
  subst h1
  subst h2
  exact T
theorem errs {a b : Int} (ha : a = 0 ∨ (0 < a ∧ a ≤ 12)) (hb : b = 0 ∨ (0 < b ∧ b ≤ 12)) : (a = 0 ∧ b = 0) ∨ ∃ sm, IntKind.i64.wrap (a + b) = sm ∧ (sm == 0) = false ∧ (sm != 0) = true := by
  by_cases hz : a = 0 ∧ b = 0
  · exact .inl hz
  · have h0 : a + b ≠ 0 := by omega
    exact .inr ⟨a + b, IntWalk.i64_in _ (by omega), beq_eq_false_iff_ne.2 h0, bne_iff_ne.2 h0⟩
set_option maxRecDepth 100000 in
set_option maxHeartbeats 16000000 in
theorem codecapart_walk (f g : Fr) (c d : Ct) (hf : FrWf f) (hg : FrWf g) (hc : CtWf c) (hd : CtWf d) (tk of mk tk2 of2 mk2 : Int) (A1 A2 A3 B1 B2 B3 : Option Addr) (n1 c1 n2 c2 n3 c3 m1 d1 m2 d2 m3 d3 : Nat) (ms ms2 : List Int) (ps ps2 : List Pn4) (os os2 : List Ot) (W : World) (hm : I64 mk) (hm2 : I64 mk2)
    (rr1 : RdL (Enc.num .i64) W (.slice A1 n1 c1) ms) (e1 : RdL (Enc.num .i64) W (.slice B1 m1 d1) ms2) (rr2 : RdL ((Enc.num .i64).pair (((Enc.num .i64).pair (Enc.num .i64)).pair (Enc.num .i64))) W (.slice A2 n2 c2) ps) (e2 : RdL ((Enc.num .i64).pair (((Enc.num .i64).pair (Enc.num .i64)).pair (Enc.num .i64))) W (.slice B2 m2 d2) ps2) (rr3 : RdL ((Enc.num .i64).pair ((Enc.num .i64).pair (((Enc.num .i64).pair ((Enc.num .i64).pair (Enc.num .i64))).pair ((Enc.num .i64).pair ((Enc.num .u64).pair Enc.flag))))) W (.slice A3 n3 c3) os) (e3 : RdL ((Enc.num .i64).pair ((Enc.num .i64).pair (((Enc.num .i64).pair ((Enc.num .i64).pair (Enc.num .i64))).pair ((Enc.num .i64).pair ((Enc.num .u64).pair Enc.flag))))) W (.slice B3 m3 d3) os2)
    (k1 : ∀ x ∈ ms, I64 x) (k2 : ∀ x ∈ ps, PnOk x) (k3 : ∀ x ∈ os, FrWf x.2) (l1 : ∀ x ∈ ms2, I64 x) (l2 : ∀ x ∈ ps2, PnOk x) (l3 : ∀ x ∈ os2, FrWf x.2) :
    Calls Try.prog 5 #[frv f, frv g, ctv c, ctv d, .agg #[.int .i64 tk, .int .i64 of, .int .i64 mk, .slice A1 n1 c1, .slice A2 n2 c2, .slice A3 n3 c3], .agg #[.int .i64 tk2, .int .i64 of2, .int .i64 mk2, .slice B1 m1 d1, .slice B2 m2 d2, .slice B3 m3 d3]] W fun e w' => e = .returned (.bool true) ∧ Below W.heap.size W w' := by
  have K := ((((((Hs.start W).alloc (.cells (frc f) 37)).alloc (.cells (frc g) 37)).alloc (.cells (ctc c) 39)).alloc (.cells (ctc d) 39)).alloc (.cells #[.int .i64 tk, .int .i64 of, .int .i64 mk, .slice A1 n1 c1, .slice A2 n2 c2, .slice A3 n3 c3] 55)).alloc (.cells #[.int .i64 tk2, .int .i64 of2, .int .i64 mk2, .slice B1 m1 d1, .slice B2 m2 d2, .slice B3 m3 d3] 55)
  simp only [asz] at K
  obtain ⟨LF1, hLF1⟩ : ∃ L, fout f = L := ⟨_, rfl⟩
  obtain ⟨LF2, hLF2⟩ : ∃ L, fout g = L := ⟨_, rfl⟩
  obtain ⟨eF1, heF1⟩ : ∃ L, ferr f = L := ⟨_, rfl⟩
  obtain ⟨eF2, heF2⟩ : ∃ L, ferr g = L := ⟨_, rfl⟩
  obtain ⟨LC1, hLC1⟩ : ∃ L, cout c = L := ⟨_, rfl⟩
  obtain ⟨LC2, hLC2⟩ : ∃ L, cout d = L := ⟨_, rfl⟩
  obtain ⟨eC1, heC1⟩ : ∃ L, cerr c = L := ⟨_, rfl⟩
  obtain ⟨eC2, heC2⟩ : ∃ L, cerr d = L := ⟨_, rfl⟩
  obtain ⟨LS1, hLS1⟩ : ∃ L, snOut (tk, of, mk, ms, ps, os) = L := ⟨_, rfl⟩
  obtain ⟨LS2, hLS2⟩ : ∃ L, snOut (tk2, of2, mk2, ms2, ps2, os2) = L := ⟨_, rfl⟩
  obtain ⟨eS1, heS1⟩ : ∃ L, snErr (tk, of, mk, ms, ps, os) = L := ⟨_, rfl⟩
  obtain ⟨eS2, heS2⟩ : ∃ L, snErr (tk2, of2, mk2, ms2, ps2, os2) = L := ⟨_, rfl⟩
  have TF1 := be_gen (fun w w0 R h => frame19 f hf.2.2 w w0 R h) hLF1 heF1
  have TF2 := be_gen (fun w w0 R h => frame19 g hg.2.2 w w0 R h) hLF2 heF2
  have TC1 := be_gen (fun w w0 R h => control21 c hc w w0 R h) hLC1 heC1
  have TC2 := be_gen (fun w w0 R h => control21 d hd w w0 R h) hLC2 heC2
  have TS1 := fun w w0 R H h1 h2 h3 => snap27 tk of mk A1 A2 A3 n1 c1 n2 c2 n3 c3 ms ps os w w0 R H h1 h2 h3 (fun x hx => (k3 x hx).2.2)
  have TS2 := fun w w0 R H h1 h2 h3 => snap27 tk2 of2 mk2 B1 B2 B3 m1 d1 m2 d2 m3 d3 ms2 ps2 os2 w w0 R H h1 h2 h3 (fun x hx => (l3 x hx).2.2)
  rw [hLS1, heS1] at TS1
  rw [hLS2, heS2] at TS2
  have oF1 := (ferr_or f).imp id fun h : ferr f = 10 => (⟨by omega, by omega⟩ : 0 < ferr f ∧ ferr f ≤ 12)
  have oF2 := (ferr_or g).imp id fun h : ferr g = 10 => (⟨by omega, by omega⟩ : 0 < ferr g ∧ ferr g ≤ 12)
  have oC1 := (cerr_or c).imp id fun h : cerr c = 10 => (⟨by omega, by omega⟩ : 0 < cerr c ∧ cerr c ≤ 12)
  have oC2 := (cerr_or d).imp id fun h : cerr d = 10 => (⟨by omega, by omega⟩ : 0 < cerr d ∧ cerr d ≤ 12)
  have oS1 := snErr_or3 (tk, of, mk, ms, ps, os)
  have oS2 := snErr_or3 (tk2, of2, mk2, ms2, ps2, os2)
  have bF := beg_fr hf hg
  have bC := beg_ct hc hd
  have bS : snErr (tk, of, mk, ms, ps, os) = 0 → snErr (tk2, of2, mk2, ms2, ps2, os2) = 0 → beg (snOut (tk, of, mk, ms, ps, os)) (snOut (tk2, of2, mk2, ms2, ps2, os2)) = snEq (tk, of, mk, ms, ps, os) (tk2, of2, mk2, ms2, ps2, os2) := fun h1 h2 => by
    obtain ⟨x1, _, x3⟩ := sn_ok h1 hm k1 k2 k3
    obtain ⟨y1, _, y3⟩ := sn_ok h2 hm2 l1 l2 l3
    rw [x3, y3]
    exact beg_good good_sn x1 y1 (snEq_iff _ _)
  rw [heF1] at oF1 bF
  rw [heF2] at oF2 bF
  rw [hLF1, hLF2] at bF
  rw [heC1] at oC1 bC
  rw [heC2] at oC2 bC
  rw [hLC1, hLC2] at bC
  rw [heS1] at oS1 bS
  rw [heS2] at oS2 bS
  rw [hLS1, hLS2] at bS
  have qF := eqF f g
  have qC := eqC c d
  generalize hbF : decide (f = g) = vF at qF bF
  generalize hbC : decide (c = d) = vC at qC bC
  have TD := fun (w w0 : World) (R : List HP) (H : Hs w0 w R) h1 h2 h3 k1 k2 k3 => snapdec28 tk of mk tk2 of2 mk2 A1 A2 A3 B1 B2 B3 n1 c1 n2 c2 n3 c3 m1 d1 m2 d2 m3 d3 ms ms2 ps ps2 os os2 w w0 R H h1 h2 h3 k1 k2 k3
  generalize hbS : snEq (tk, of, mk, ms, ps, os) (tk2, of2, mk2, ms2, ps2, os2) = vS at TD bS
  clear hLF1 hLF2 hLC1 hLC2 hLS1 hLS2 heF1 heF2 heC1 heC2 heS1 heS2 hbF hbC hbS k1 k2 k3 l1 l2 l3 hf hg hc hd hm hm2
  obtain ⟨k, ⟨r1, r2, r3⟩, m, n, o⟩ := f
  obtain ⟨k', ⟨r1', r2', r3'⟩, m', n', o'⟩ := g
  obtain ⟨ck, ce, cn, ct⟩ := c
  obtain ⟨ck', ce', cn', ct'⟩ := d
  dsimp only [frc, ctc] at K qF qC
  replace TF1 : Hid (∀ w w0 R, Hs w0 w R → Calls Try.prog 19 #[.agg #[.int .i64 k, .int .i64 r1, .int .i64 r2, .int .i64 r3, .int .i64 m, .int .u64 n, .bool o]] w (BE w0 R LF1 eF1)) := TF1
  replace TF2 : Hid (∀ w w0 R, Hs w0 w R → Calls Try.prog 19 #[.agg #[.int .i64 k', .int .i64 r1', .int .i64 r2', .int .i64 r3', .int .i64 m', .int .u64 n', .bool o']] w (BE w0 R LF2 eF2)) := TF2
  replace TC1 : Hid (∀ w w0 R, Hs w0 w R → Calls Try.prog 21 #[.agg #[.int .i64 ck, .int .u64 ce, .int .u64 cn, .int .i64 ct]] w (BE w0 R LC1 eC1)) := TC1
  replace TC2 : Hid (∀ w w0 R, Hs w0 w R → Calls Try.prog 21 #[.agg #[.int .i64 ck', .int .u64 ce', .int .u64 cn', .int .i64 ct']] w (BE w0 R LC2 eC2)) := TC2
  replace TS1 := Lib.hid TS1
  replace TS2 := Lib.hid TS2
  replace TD := Lib.hid TD
  have r10 := Lib.hid rr1
  have e10 := Lib.hid e1
  have r20 := Lib.hid rr2
  have e20 := Lib.hid e2
  have r30 := Lib.hid rr3
  have e30 := Lib.hid e3
  replace K := Lib.hid K
  clear rr1 rr2 rr3 e1 e2 e3
  show Calls Try.prog 5 #[.agg #[.int .i64 k, .int .i64 r1, .int .i64 r2, .int .i64 r3, .int .i64 m, .int .u64 n, .bool o], .agg #[.int .i64 k', .int .i64 r1', .int .i64 r2', .int .i64 r3', .int .i64 m', .int .u64 n', .bool o'], .agg #[.int .i64 ck, .int .u64 ce, .int .u64 cn, .int .i64 ct], .agg #[.int .i64 ck', .int .u64 ce', .int .u64 cn', .int .i64 ct'], .agg #[.int .i64 tk, .int .i64 of, .int .i64 mk, .slice A1 n1 c1, .slice A2 n2 c2, .slice A3 n3 c3], .agg #[.int .i64 tk2, .int .i64 of2, .int .i64 mk2, .slice B1 m1 d1, .slice B2 m2 d2, .slice B3 m3 d3]] W _
  go_enter Try.func5, Try.ntmps5
  go_upto_region 1 with (fail)
  generalize World.alloc _ _ = w1 at K ⊢
  generalize W.heap.size + 1 + 1 + 1 + 1 + 1 = bt at K ⊢
  generalize W.heap.size + 1 + 1 + 1 + 1 = bs at K ⊢
  generalize W.heap.size + 1 + 1 + 1 = bd at K ⊢
  generalize W.heap.size + 1 + 1 = bc at K ⊢
  generalize W.heap.size + 1 = bg at K ⊢
  generalize W.heap.size = bf at K ⊢
  have hF_ := Lib.hid (errs oF1 oF2)
  have hC_ := Lib.hid (errs oC1 oC2)
  have hS_ := Lib.hid (errs oS1 oS2)
  clear oF1 oF2 oC1 oC2 oS1 oS2
  go_wp2_with fail
  refine (known10 w1 W _ K.out).mono ?_
  rintro e w2 ⟨rfl, K2⟩
  replace K2 := Lib.hid K2
  clear K
  have z10_ : w2.cell? ⟨bs, 0, none⟩ = some (.int .i64 tk) := K2.out.at1.cellOf 0 rfl
  have z11_ : w2.cell? ⟨bs, 1, none⟩ = some (.int .i64 of) := K2.out.at1.cellOf 1 rfl
  have z12_ : w2.cell? ⟨bs, 2, none⟩ = some (.int .i64 mk) := K2.out.at1.cellOf 2 rfl
  have z13_ : w2.cell? ⟨bs, 3, none⟩ = some (.slice A1 n1 c1) := K2.out.at1.cellOf 3 rfl
  have z14_ : w2.cell? ⟨bs, 4, none⟩ = some (.slice A2 n2 c2) := K2.out.at1.cellOf 4 rfl
  have z15_ : w2.cell? ⟨bs, 5, none⟩ = some (.slice A3 n3 c3) := K2.out.at1.cellOf 5 rfl
  go_wp2_with fail
  refine (light25 tk of mk A1 A2 A3 n1 c1 n2 c2 n3 c3 w2 W _ K2.out).mono ?_
  rintro e w3 ⟨lt, rfl, K3⟩
  replace K3 := Lib.hid K3
  clear K2
  clear z10_ z11_ z12_ z13_ z14_ z15_
  cases lt with
  | false =>
    clear TF1 TF2 TC1 TC2 TS1 TS2 TD hF_ hC_ hS_ bF bC bS qF qC
    go_wp2_with fail
    go_ret
    exact ⟨rfl, K3.out.tail.tail.tail.tail.tail.tail.under_old⟩
  | true =>
    have z00_ : w3.cell? ⟨bt, 0, none⟩ = some (.int .i64 tk2) := K3.out.cellOf 0 rfl
    have z01_ : w3.cell? ⟨bt, 1, none⟩ = some (.int .i64 of2) := K3.out.cellOf 1 rfl
    have z02_ : w3.cell? ⟨bt, 2, none⟩ = some (.int .i64 mk2) := K3.out.cellOf 2 rfl
    have z03_ : w3.cell? ⟨bt, 3, none⟩ = some (.slice B1 m1 d1) := K3.out.cellOf 3 rfl
    have z04_ : w3.cell? ⟨bt, 4, none⟩ = some (.slice B2 m2 d2) := K3.out.cellOf 4 rfl
    have z05_ : w3.cell? ⟨bt, 5, none⟩ = some (.slice B3 m3 d3) := K3.out.cellOf 5 rfl
    go_wp2_with fail
    refine (light25 tk2 of2 mk2 B1 B2 B3 m1 d1 m2 d2 m3 d3 w3 W _ K3.out).mono ?_
    rintro e w4 ⟨lt, rfl, K4⟩
    replace K4 := Lib.hid K4
    clear K3
    clear z00_ z01_ z02_ z03_ z04_ z05_
    cases lt with
    | false =>
      clear TF1 TF2 TC1 TC2 TS1 TS2 TD hF_ hC_ hS_ bF bC bS qF qC
      go_wp2_with fail
      go_ret
      exact ⟨rfl, K4.out.tail.tail.tail.tail.tail.tail.under_old⟩
    | true =>
      have z50_ : w4.cell? ⟨bf, 0, none⟩ = some (.int .i64 k) := K4.out.at5.cellOf 0 rfl
      have z51_ : w4.cell? ⟨bf, 1, none⟩ = some (.int .i64 r1) := K4.out.at5.cellOf 1 rfl
      have z52_ : w4.cell? ⟨bf, 2, none⟩ = some (.int .i64 r2) := K4.out.at5.cellOf 2 rfl
      have z53_ : w4.cell? ⟨bf, 3, none⟩ = some (.int .i64 r3) := K4.out.at5.cellOf 3 rfl
      have z54_ : w4.cell? ⟨bf, 4, none⟩ = some (.int .i64 m) := K4.out.at5.cellOf 4 rfl
      have z55_ : w4.cell? ⟨bf, 5, none⟩ = some (.int .u64 n) := K4.out.at5.cellOf 5 rfl
      have z56_ : w4.cell? ⟨bf, 6, none⟩ = some (.bool o) := K4.out.at5.cellOf 6 rfl
      go_wp2_with fail
      refine (TF1.out w4 W _ K4.out).mono ?_
      rintro e xF5 ⟨PF5, pF5, rfl, KF5⟩
      replace KF5 := Lib.hid KF5
      clear K4
      clear z50_ z51_ z52_ z53_ z54_ z55_ z56_
      have z40_ : xF5.cell? ⟨bg, 0, none⟩ = some (.int .i64 k') := KF5.out.at5.cellOf 0 rfl
      have z41_ : xF5.cell? ⟨bg, 1, none⟩ = some (.int .i64 r1') := KF5.out.at5.cellOf 1 rfl
      have z42_ : xF5.cell? ⟨bg, 2, none⟩ = some (.int .i64 r2') := KF5.out.at5.cellOf 2 rfl
      have z43_ : xF5.cell? ⟨bg, 3, none⟩ = some (.int .i64 r3') := KF5.out.at5.cellOf 3 rfl
      have z44_ : xF5.cell? ⟨bg, 4, none⟩ = some (.int .i64 m') := KF5.out.at5.cellOf 4 rfl
      have z45_ : xF5.cell? ⟨bg, 5, none⟩ = some (.int .u64 n') := KF5.out.at5.cellOf 5 rfl
      have z46_ : xF5.cell? ⟨bg, 6, none⟩ = some (.bool o') := KF5.out.at5.cellOf 6 rfl
      go_wp2_with fail
      refine (TF2.out xF5 W _ KF5.out).mono ?_
      rintro e xF6 ⟨PF6, pF6, rfl, KF6⟩
      replace KF6 := Lib.hid KF6
      clear KF5 TF1 TF2
      clear z40_ z41_ z42_ z43_ z44_ z45_ z46_
      have z50_ : xF6.cell? ⟨bf, 0, none⟩ = some (.int .i64 k) := KF6.out.at7.cellOf 0 rfl
      have z51_ : xF6.cell? ⟨bf, 1, none⟩ = some (.int .i64 r1) := KF6.out.at7.cellOf 1 rfl
      have z52_ : xF6.cell? ⟨bf, 2, none⟩ = some (.int .i64 r2) := KF6.out.at7.cellOf 2 rfl
      have z53_ : xF6.cell? ⟨bf, 3, none⟩ = some (.int .i64 r3) := KF6.out.at7.cellOf 3 rfl
      have z54_ : xF6.cell? ⟨bf, 4, none⟩ = some (.int .i64 m) := KF6.out.at7.cellOf 4 rfl
      have z55_ : xF6.cell? ⟨bf, 5, none⟩ = some (.int .u64 n) := KF6.out.at7.cellOf 5 rfl
      have z56_ : xF6.cell? ⟨bf, 6, none⟩ = some (.bool o) := KF6.out.at7.cellOf 6 rfl
      have z40_ : xF6.cell? ⟨bg, 0, none⟩ = some (.int .i64 k') := KF6.out.at6.cellOf 0 rfl
      have z41_ : xF6.cell? ⟨bg, 1, none⟩ = some (.int .i64 r1') := KF6.out.at6.cellOf 1 rfl
      have z42_ : xF6.cell? ⟨bg, 2, none⟩ = some (.int .i64 r2') := KF6.out.at6.cellOf 2 rfl
      have z43_ : xF6.cell? ⟨bg, 3, none⟩ = some (.int .i64 r3') := KF6.out.at6.cellOf 3 rfl
      have z44_ : xF6.cell? ⟨bg, 4, none⟩ = some (.int .i64 m') := KF6.out.at6.cellOf 4 rfl
      have z45_ : xF6.cell? ⟨bg, 5, none⟩ = some (.int .u64 n') := KF6.out.at6.cellOf 5 rfl
      have z46_ : xF6.cell? ⟨bg, 6, none⟩ = some (.bool o') := KF6.out.at6.cellOf 6 rfl
      rcases hF_.out with ⟨rfl, rfl⟩ | ⟨smF, hsmF, hszF, hsy_⟩
      · have hdu : ∀ q, Calls Try.prog 26 #[.slice PF5 LF1.length pF5, .slice PF6 LF2.length pF6] (xF6.drewN q) fun e w'' => e = .returned (.bool vF) ∧ ∃ m, w'' = xF6.drewN m := fun q => by
          refine (begins26 PF5 PF6 _ pF5 _ pF6 LF1 LF2 (xF6.drewN q) W _ (KF6.out.drewN q) (fun w' h => h.at1.ls_rd) (fun w' h => h.ls_rd)).mono ?_
          rw [bF (by first | trivial | rfl) (by first | trivial | rfl)]
          rintro e w' ⟨rfl, z, rfl⟩
          exact ⟨rfl, _, by first | rfl | exact World.drewN_drewN ..⟩
        clear bF
        go_wp2_with fail
        go_quiet ((go_at_call 26; exact hdu _))
        have KF7 := Lib.hid (KF6.out.tail.tail.drewN nq)
        clear z50_ z51_ z52_ z53_ z54_ z55_ z56_ z40_ z41_ z42_ z43_ z44_ z45_ z46_
        clear hdu qF KF6
        generalize World.drewN xF6 nq = xF7 at *
        have z30_ : xF7.cell? ⟨bc, 0, none⟩ = some (.int .i64 ck) := KF7.out.at3.cellOf 0 rfl
        have z31_ : xF7.cell? ⟨bc, 1, none⟩ = some (.int .u64 ce) := KF7.out.at3.cellOf 1 rfl
        have z32_ : xF7.cell? ⟨bc, 2, none⟩ = some (.int .u64 cn) := KF7.out.at3.cellOf 2 rfl
        have z33_ : xF7.cell? ⟨bc, 3, none⟩ = some (.int .i64 ct) := KF7.out.at3.cellOf 3 rfl
        go_wp2_with fail
        refine (TC1.out xF7 W _ KF7.out).mono ?_
        rintro e xC5 ⟨PC5, pC5, rfl, KC5⟩
        replace KC5 := Lib.hid KC5
        clear KF7
        clear z30_ z31_ z32_ z33_
        have z20_ : xC5.cell? ⟨bd, 0, none⟩ = some (.int .i64 ck') := KC5.out.at3.cellOf 0 rfl
        have z21_ : xC5.cell? ⟨bd, 1, none⟩ = some (.int .u64 ce') := KC5.out.at3.cellOf 1 rfl
        have z22_ : xC5.cell? ⟨bd, 2, none⟩ = some (.int .u64 cn') := KC5.out.at3.cellOf 2 rfl
        have z23_ : xC5.cell? ⟨bd, 3, none⟩ = some (.int .i64 ct') := KC5.out.at3.cellOf 3 rfl
        go_wp2_with fail
        refine (TC2.out xC5 W _ KC5.out).mono ?_
        rintro e xC6 ⟨PC6, pC6, rfl, KC6⟩
        replace KC6 := Lib.hid KC6
        clear KC5 TC1 TC2
        clear z20_ z21_ z22_ z23_
        have z30_ : xC6.cell? ⟨bc, 0, none⟩ = some (.int .i64 ck) := KC6.out.at5.cellOf 0 rfl
        have z31_ : xC6.cell? ⟨bc, 1, none⟩ = some (.int .u64 ce) := KC6.out.at5.cellOf 1 rfl
        have z32_ : xC6.cell? ⟨bc, 2, none⟩ = some (.int .u64 cn) := KC6.out.at5.cellOf 2 rfl
        have z33_ : xC6.cell? ⟨bc, 3, none⟩ = some (.int .i64 ct) := KC6.out.at5.cellOf 3 rfl
        have z20_ : xC6.cell? ⟨bd, 0, none⟩ = some (.int .i64 ck') := KC6.out.at4.cellOf 0 rfl
        have z21_ : xC6.cell? ⟨bd, 1, none⟩ = some (.int .u64 ce') := KC6.out.at4.cellOf 1 rfl
        have z22_ : xC6.cell? ⟨bd, 2, none⟩ = some (.int .u64 cn') := KC6.out.at4.cellOf 2 rfl
        have z23_ : xC6.cell? ⟨bd, 3, none⟩ = some (.int .i64 ct') := KC6.out.at4.cellOf 3 rfl
        rcases hC_.out with ⟨rfl, rfl⟩ | ⟨smC, hsmC, hszC, hsy_⟩
        · have hdu : ∀ q, Calls Try.prog 26 #[.slice PC5 LC1.length pC5, .slice PC6 LC2.length pC6] (xC6.drewN q) fun e w'' => e = .returned (.bool vC) ∧ ∃ m, w'' = xC6.drewN m := fun q => by
            refine (begins26 PC5 PC6 _ pC5 _ pC6 LC1 LC2 (xC6.drewN q) W _ (KC6.out.drewN q) (fun w' h => h.at1.ls_rd) (fun w' h => h.ls_rd)).mono ?_
            rw [bC (by first | trivial | rfl) (by first | trivial | rfl)]
            rintro e w' ⟨rfl, z, rfl⟩
            exact ⟨rfl, _, by first | rfl | exact World.drewN_drewN ..⟩
          clear bC
          go_wp2_with fail
          go_quiet ((go_at_call 26; exact hdu _))
          have KC7 := Lib.hid (KC6.out.tail.tail.drewN nq)
          clear z30_ z31_ z32_ z33_ z20_ z21_ z22_ z23_
          clear hdu qC KC6
          generalize World.drewN xC6 nq = xC7 at *
          have z10_ : xC7.cell? ⟨bs, 0, none⟩ = some (.int .i64 tk) := KC7.out.at1.cellOf 0 rfl
          have z11_ : xC7.cell? ⟨bs, 1, none⟩ = some (.int .i64 of) := KC7.out.at1.cellOf 1 rfl
          have z12_ : xC7.cell? ⟨bs, 2, none⟩ = some (.int .i64 mk) := KC7.out.at1.cellOf 2 rfl
          have z13_ : xC7.cell? ⟨bs, 3, none⟩ = some (.slice A1 n1 c1) := KC7.out.at1.cellOf 3 rfl
          have z14_ : xC7.cell? ⟨bs, 4, none⟩ = some (.slice A2 n2 c2) := KC7.out.at1.cellOf 4 rfl
          have z15_ : xC7.cell? ⟨bs, 5, none⟩ = some (.slice A3 n3 c3) := KC7.out.at1.cellOf 5 rfl
          go_wp2_with fail
          refine (TS1.out xC7 W _ KC7.out (fun w' h => r10.out.old h.tail.tail.tail.tail.tail.tail) (fun w' h => r20.out.old h.tail.tail.tail.tail.tail.tail) (fun w' h => r30.out.old h.tail.tail.tail.tail.tail.tail)).mono ?_
          rintro e y5 ⟨P5, p5, rfl, J5⟩
          replace J5 := Lib.hid J5
          clear KC7
          clear z10_ z11_ z12_ z13_ z14_ z15_
          have z00_ : y5.cell? ⟨bt, 0, none⟩ = some (.int .i64 tk2) := J5.out.at1.cellOf 0 rfl
          have z01_ : y5.cell? ⟨bt, 1, none⟩ = some (.int .i64 of2) := J5.out.at1.cellOf 1 rfl
          have z02_ : y5.cell? ⟨bt, 2, none⟩ = some (.int .i64 mk2) := J5.out.at1.cellOf 2 rfl
          have z03_ : y5.cell? ⟨bt, 3, none⟩ = some (.slice B1 m1 d1) := J5.out.at1.cellOf 3 rfl
          have z04_ : y5.cell? ⟨bt, 4, none⟩ = some (.slice B2 m2 d2) := J5.out.at1.cellOf 4 rfl
          have z05_ : y5.cell? ⟨bt, 5, none⟩ = some (.slice B3 m3 d3) := J5.out.at1.cellOf 5 rfl
          go_wp2_with fail
          refine (TS2.out y5 W _ J5.out (fun w' h => e10.out.old h.tail.tail.tail.tail.tail.tail.tail) (fun w' h => e20.out.old h.tail.tail.tail.tail.tail.tail.tail) (fun w' h => e30.out.old h.tail.tail.tail.tail.tail.tail.tail)).mono ?_
          rintro e y6 ⟨P6, p6, rfl, J6⟩
          replace J6 := Lib.hid J6
          clear J5
          clear z00_ z01_ z02_ z03_ z04_ z05_
          have z00_ : y6.cell? ⟨bt, 0, none⟩ = some (.int .i64 tk2) := J6.out.at2.cellOf 0 rfl
          have z01_ : y6.cell? ⟨bt, 1, none⟩ = some (.int .i64 of2) := J6.out.at2.cellOf 1 rfl
          have z02_ : y6.cell? ⟨bt, 2, none⟩ = some (.int .i64 mk2) := J6.out.at2.cellOf 2 rfl
          have z03_ : y6.cell? ⟨bt, 3, none⟩ = some (.slice B1 m1 d1) := J6.out.at2.cellOf 3 rfl
          have z04_ : y6.cell? ⟨bt, 4, none⟩ = some (.slice B2 m2 d2) := J6.out.at2.cellOf 4 rfl
          have z05_ : y6.cell? ⟨bt, 5, none⟩ = some (.slice B3 m3 d3) := J6.out.at2.cellOf 5 rfl
          have z10_ : y6.cell? ⟨bs, 0, none⟩ = some (.int .i64 tk) := J6.out.at3.cellOf 0 rfl
          have z11_ : y6.cell? ⟨bs, 1, none⟩ = some (.int .i64 of) := J6.out.at3.cellOf 1 rfl
          have z12_ : y6.cell? ⟨bs, 2, none⟩ = some (.int .i64 mk) := J6.out.at3.cellOf 2 rfl
          have z13_ : y6.cell? ⟨bs, 3, none⟩ = some (.slice A1 n1 c1) := J6.out.at3.cellOf 3 rfl
          have z14_ : y6.cell? ⟨bs, 4, none⟩ = some (.slice A2 n2 c2) := J6.out.at3.cellOf 4 rfl
          have z15_ : y6.cell? ⟨bs, 5, none⟩ = some (.slice A3 n3 c3) := J6.out.at3.cellOf 5 rfl
          rcases hS_.out with ⟨rfl, rfl⟩ | ⟨smS, hsmS, hszS, hsyS⟩
          · go_wp2_with fail
            refine (TD.out y6 W _ J6.out (fun w' h => r10.out.old h.tail.tail.tail.tail.tail.tail.tail.tail) (fun w' h => r20.out.old h.tail.tail.tail.tail.tail.tail.tail.tail) (fun w' h => r30.out.old h.tail.tail.tail.tail.tail.tail.tail.tail) (fun w' h => e10.out.old h.tail.tail.tail.tail.tail.tail.tail.tail) (fun w' h => e20.out.old h.tail.tail.tail.tail.tail.tail.tail.tail) (fun w' h => e30.out.old h.tail.tail.tail.tail.tail.tail.tail.tail)).mono ?_
            rintro e y7 ⟨rfl, J7⟩
            replace J7 := Lib.hid J7
            clear J6
            clear z00_ z01_ z02_ z03_ z04_ z05_ z10_ z11_ z12_ z13_ z14_ z15_
            go_wp2_with fail
            refine (begins26 P5 P6 _ p5 _ p6 LS1 LS2 y7 W _ J7.out (fun w' h => h.at1.ls_rd) (fun w' h => h.ls_rd)).mono ?_
            rw [bS (by first | trivial | rfl) (by first | trivial | rfl)]
            rintro e y8 ⟨rfl, z, rfl⟩
            have J8 := Lib.hid (J7.out.drewN z)
            clear J7
            generalize World.drewN y7 z = y9 at J8 ⊢
            go_wp2_with fail
            go_ret
            exact ⟨rfl, J8.out.tail.tail.tail.tail.tail.tail.tail.tail.under_old⟩
          · go_wp2_with fail
            go_ret
            exact ⟨rfl, J6.out.tail.tail.tail.tail.tail.tail.tail.tail.under_old⟩
        · clear bC
          go_wp2_with fail
          go_quiet (fail)
          have KC7 := Lib.hid (KC6.out.tail.tail.drewN nq)
          clear z30_ z31_ z32_ z33_ z20_ z21_ z22_ z23_
          clear qC hsmC hszC hsy_ KC6
          generalize World.drewN xC6 nq = xC7 at *
          have z10_ : xC7.cell? ⟨bs, 0, none⟩ = some (.int .i64 tk) := KC7.out.at1.cellOf 0 rfl
          have z11_ : xC7.cell? ⟨bs, 1, none⟩ = some (.int .i64 of) := KC7.out.at1.cellOf 1 rfl
          have z12_ : xC7.cell? ⟨bs, 2, none⟩ = some (.int .i64 mk) := KC7.out.at1.cellOf 2 rfl
          have z13_ : xC7.cell? ⟨bs, 3, none⟩ = some (.slice A1 n1 c1) := KC7.out.at1.cellOf 3 rfl
          have z14_ : xC7.cell? ⟨bs, 4, none⟩ = some (.slice A2 n2 c2) := KC7.out.at1.cellOf 4 rfl
          have z15_ : xC7.cell? ⟨bs, 5, none⟩ = some (.slice A3 n3 c3) := KC7.out.at1.cellOf 5 rfl
          go_wp2_with fail
          refine (TS1.out xC7 W _ KC7.out (fun w' h => r10.out.old h.tail.tail.tail.tail.tail.tail) (fun w' h => r20.out.old h.tail.tail.tail.tail.tail.tail) (fun w' h => r30.out.old h.tail.tail.tail.tail.tail.tail)).mono ?_
          rintro e y5 ⟨P5, p5, rfl, J5⟩
          replace J5 := Lib.hid J5
          clear KC7
          clear z10_ z11_ z12_ z13_ z14_ z15_
          have z00_ : y5.cell? ⟨bt, 0, none⟩ = some (.int .i64 tk2) := J5.out.at1.cellOf 0 rfl
          have z01_ : y5.cell? ⟨bt, 1, none⟩ = some (.int .i64 of2) := J5.out.at1.cellOf 1 rfl
          have z02_ : y5.cell? ⟨bt, 2, none⟩ = some (.int .i64 mk2) := J5.out.at1.cellOf 2 rfl
          have z03_ : y5.cell? ⟨bt, 3, none⟩ = some (.slice B1 m1 d1) := J5.out.at1.cellOf 3 rfl
          have z04_ : y5.cell? ⟨bt, 4, none⟩ = some (.slice B2 m2 d2) := J5.out.at1.cellOf 4 rfl
          have z05_ : y5.cell? ⟨bt, 5, none⟩ = some (.slice B3 m3 d3) := J5.out.at1.cellOf 5 rfl
          go_wp2_with fail
          refine (TS2.out y5 W _ J5.out (fun w' h => e10.out.old h.tail.tail.tail.tail.tail.tail.tail) (fun w' h => e20.out.old h.tail.tail.tail.tail.tail.tail.tail) (fun w' h => e30.out.old h.tail.tail.tail.tail.tail.tail.tail)).mono ?_
          rintro e y6 ⟨P6, p6, rfl, J6⟩
          replace J6 := Lib.hid J6
          clear J5
          clear z00_ z01_ z02_ z03_ z04_ z05_
          have z00_ : y6.cell? ⟨bt, 0, none⟩ = some (.int .i64 tk2) := J6.out.at2.cellOf 0 rfl
          have z01_ : y6.cell? ⟨bt, 1, none⟩ = some (.int .i64 of2) := J6.out.at2.cellOf 1 rfl
          have z02_ : y6.cell? ⟨bt, 2, none⟩ = some (.int .i64 mk2) := J6.out.at2.cellOf 2 rfl
          have z03_ : y6.cell? ⟨bt, 3, none⟩ = some (.slice B1 m1 d1) := J6.out.at2.cellOf 3 rfl
          have z04_ : y6.cell? ⟨bt, 4, none⟩ = some (.slice B2 m2 d2) := J6.out.at2.cellOf 4 rfl
          have z05_ : y6.cell? ⟨bt, 5, none⟩ = some (.slice B3 m3 d3) := J6.out.at2.cellOf 5 rfl
          have z10_ : y6.cell? ⟨bs, 0, none⟩ = some (.int .i64 tk) := J6.out.at3.cellOf 0 rfl
          have z11_ : y6.cell? ⟨bs, 1, none⟩ = some (.int .i64 of) := J6.out.at3.cellOf 1 rfl
          have z12_ : y6.cell? ⟨bs, 2, none⟩ = some (.int .i64 mk) := J6.out.at3.cellOf 2 rfl
          have z13_ : y6.cell? ⟨bs, 3, none⟩ = some (.slice A1 n1 c1) := J6.out.at3.cellOf 3 rfl
          have z14_ : y6.cell? ⟨bs, 4, none⟩ = some (.slice A2 n2 c2) := J6.out.at3.cellOf 4 rfl
          have z15_ : y6.cell? ⟨bs, 5, none⟩ = some (.slice A3 n3 c3) := J6.out.at3.cellOf 5 rfl
          rcases hS_.out with ⟨rfl, rfl⟩ | ⟨smS, hsmS, hszS, hsyS⟩
          · go_wp2_with fail
            refine (TD.out y6 W _ J6.out (fun w' h => r10.out.old h.tail.tail.tail.tail.tail.tail.tail.tail) (fun w' h => r20.out.old h.tail.tail.tail.tail.tail.tail.tail.tail) (fun w' h => r30.out.old h.tail.tail.tail.tail.tail.tail.tail.tail) (fun w' h => e10.out.old h.tail.tail.tail.tail.tail.tail.tail.tail) (fun w' h => e20.out.old h.tail.tail.tail.tail.tail.tail.tail.tail) (fun w' h => e30.out.old h.tail.tail.tail.tail.tail.tail.tail.tail)).mono ?_
            rintro e y7 ⟨rfl, J7⟩
            replace J7 := Lib.hid J7
            clear J6
            clear z00_ z01_ z02_ z03_ z04_ z05_ z10_ z11_ z12_ z13_ z14_ z15_
            go_wp2_with fail
            refine (begins26 P5 P6 _ p5 _ p6 LS1 LS2 y7 W _ J7.out (fun w' h => h.at1.ls_rd) (fun w' h => h.ls_rd)).mono ?_
            rw [bS (by first | trivial | rfl) (by first | trivial | rfl)]
            rintro e y8 ⟨rfl, z, rfl⟩
            have J8 := Lib.hid (J7.out.drewN z)
            clear J7
            generalize World.drewN y7 z = y9 at J8 ⊢
            go_wp2_with fail
            go_ret
            exact ⟨rfl, J8.out.tail.tail.tail.tail.tail.tail.tail.tail.under_old⟩
          · go_wp2_with fail
            go_ret
            exact ⟨rfl, J6.out.tail.tail.tail.tail.tail.tail.tail.tail.under_old⟩
      · clear bF
        go_wp2_with fail
        go_quiet (fail)
        have KF7 := Lib.hid (KF6.out.tail.tail.drewN nq)
        clear z50_ z51_ z52_ z53_ z54_ z55_ z56_ z40_ z41_ z42_ z43_ z44_ z45_ z46_
        clear qF hsmF hszF hsy_ KF6
        generalize World.drewN xF6 nq = xF7 at *
        have z30_ : xF7.cell? ⟨bc, 0, none⟩ = some (.int .i64 ck) := KF7.out.at3.cellOf 0 rfl
        have z31_ : xF7.cell? ⟨bc, 1, none⟩ = some (.int .u64 ce) := KF7.out.at3.cellOf 1 rfl
        have z32_ : xF7.cell? ⟨bc, 2, none⟩ = some (.int .u64 cn) := KF7.out.at3.cellOf 2 rfl
        have z33_ : xF7.cell? ⟨bc, 3, none⟩ = some (.int .i64 ct) := KF7.out.at3.cellOf 3 rfl
        go_wp2_with fail
        refine (TC1.out xF7 W _ KF7.out).mono ?_
        rintro e xC5 ⟨PC5, pC5, rfl, KC5⟩
        replace KC5 := Lib.hid KC5
        clear KF7
        clear z30_ z31_ z32_ z33_
        have z20_ : xC5.cell? ⟨bd, 0, none⟩ = some (.int .i64 ck') := KC5.out.at3.cellOf 0 rfl
        have z21_ : xC5.cell? ⟨bd, 1, none⟩ = some (.int .u64 ce') := KC5.out.at3.cellOf 1 rfl
        have z22_ : xC5.cell? ⟨bd, 2, none⟩ = some (.int .u64 cn') := KC5.out.at3.cellOf 2 rfl
        have z23_ : xC5.cell? ⟨bd, 3, none⟩ = some (.int .i64 ct') := KC5.out.at3.cellOf 3 rfl
        go_wp2_with fail
        refine (TC2.out xC5 W _ KC5.out).mono ?_
        rintro e xC6 ⟨PC6, pC6, rfl, KC6⟩
        replace KC6 := Lib.hid KC6
        clear KC5 TC1 TC2
        clear z20_ z21_ z22_ z23_
        have z30_ : xC6.cell? ⟨bc, 0, none⟩ = some (.int .i64 ck) := KC6.out.at5.cellOf 0 rfl
        have z31_ : xC6.cell? ⟨bc, 1, none⟩ = some (.int .u64 ce) := KC6.out.at5.cellOf 1 rfl
        have z32_ : xC6.cell? ⟨bc, 2, none⟩ = some (.int .u64 cn) := KC6.out.at5.cellOf 2 rfl
        have z33_ : xC6.cell? ⟨bc, 3, none⟩ = some (.int .i64 ct) := KC6.out.at5.cellOf 3 rfl
        have z20_ : xC6.cell? ⟨bd, 0, none⟩ = some (.int .i64 ck') := KC6.out.at4.cellOf 0 rfl
        have z21_ : xC6.cell? ⟨bd, 1, none⟩ = some (.int .u64 ce') := KC6.out.at4.cellOf 1 rfl
        have z22_ : xC6.cell? ⟨bd, 2, none⟩ = some (.int .u64 cn') := KC6.out.at4.cellOf 2 rfl
        have z23_ : xC6.cell? ⟨bd, 3, none⟩ = some (.int .i64 ct') := KC6.out.at4.cellOf 3 rfl
        rcases hC_.out with ⟨rfl, rfl⟩ | ⟨smC, hsmC, hszC, hsy_⟩
        · have hdu : ∀ q, Calls Try.prog 26 #[.slice PC5 LC1.length pC5, .slice PC6 LC2.length pC6] (xC6.drewN q) fun e w'' => e = .returned (.bool vC) ∧ ∃ m, w'' = xC6.drewN m := fun q => by
            refine (begins26 PC5 PC6 _ pC5 _ pC6 LC1 LC2 (xC6.drewN q) W _ (KC6.out.drewN q) (fun w' h => h.at1.ls_rd) (fun w' h => h.ls_rd)).mono ?_
            rw [bC (by first | trivial | rfl) (by first | trivial | rfl)]
            rintro e w' ⟨rfl, z, rfl⟩
            exact ⟨rfl, _, by first | rfl | exact World.drewN_drewN ..⟩
          clear bC
          go_wp2_with fail
          go_quiet ((go_at_call 26; exact hdu _))
          have KC7 := Lib.hid (KC6.out.tail.tail.drewN nq)
          clear z30_ z31_ z32_ z33_ z20_ z21_ z22_ z23_
          clear hdu qC KC6
          generalize World.drewN xC6 nq = xC7 at *
          have z10_ : xC7.cell? ⟨bs, 0, none⟩ = some (.int .i64 tk) := KC7.out.at1.cellOf 0 rfl
          have z11_ : xC7.cell? ⟨bs, 1, none⟩ = some (.int .i64 of) := KC7.out.at1.cellOf 1 rfl
          have z12_ : xC7.cell? ⟨bs, 2, none⟩ = some (.int .i64 mk) := KC7.out.at1.cellOf 2 rfl
          have z13_ : xC7.cell? ⟨bs, 3, none⟩ = some (.slice A1 n1 c1) := KC7.out.at1.cellOf 3 rfl
          have z14_ : xC7.cell? ⟨bs, 4, none⟩ = some (.slice A2 n2 c2) := KC7.out.at1.cellOf 4 rfl
          have z15_ : xC7.cell? ⟨bs, 5, none⟩ = some (.slice A3 n3 c3) := KC7.out.at1.cellOf 5 rfl
          go_wp2_with fail
          refine (TS1.out xC7 W _ KC7.out (fun w' h => r10.out.old h.tail.tail.tail.tail.tail.tail) (fun w' h => r20.out.old h.tail.tail.tail.tail.tail.tail) (fun w' h => r30.out.old h.tail.tail.tail.tail.tail.tail)).mono ?_
          rintro e y5 ⟨P5, p5, rfl, J5⟩
          replace J5 := Lib.hid J5
          clear KC7
          clear z10_ z11_ z12_ z13_ z14_ z15_
          have z00_ : y5.cell? ⟨bt, 0, none⟩ = some (.int .i64 tk2) := J5.out.at1.cellOf 0 rfl
          have z01_ : y5.cell? ⟨bt, 1, none⟩ = some (.int .i64 of2) := J5.out.at1.cellOf 1 rfl
          have z02_ : y5.cell? ⟨bt, 2, none⟩ = some (.int .i64 mk2) := J5.out.at1.cellOf 2 rfl
          have z03_ : y5.cell? ⟨bt, 3, none⟩ = some (.slice B1 m1 d1) := J5.out.at1.cellOf 3 rfl
          have z04_ : y5.cell? ⟨bt, 4, none⟩ = some (.slice B2 m2 d2) := J5.out.at1.cellOf 4 rfl
          have z05_ : y5.cell? ⟨bt, 5, none⟩ = some (.slice B3 m3 d3) := J5.out.at1.cellOf 5 rfl
          go_wp2_with fail
          refine (TS2.out y5 W _ J5.out (fun w' h => e10.out.old h.tail.tail.tail.tail.tail.tail.tail) (fun w' h => e20.out.old h.tail.tail.tail.tail.tail.tail.tail) (fun w' h => e30.out.old h.tail.tail.tail.tail.tail.tail.tail)).mono ?_
          rintro e y6 ⟨P6, p6, rfl, J6⟩
          replace J6 := Lib.hid J6
          clear J5
          clear z00_ z01_ z02_ z03_ z04_ z05_
          have z00_ : y6.cell? ⟨bt, 0, none⟩ = some (.int .i64 tk2) := J6.out.at2.cellOf 0 rfl
          have z01_ : y6.cell? ⟨bt, 1, none⟩ = some (.int .i64 of2) := J6.out.at2.cellOf 1 rfl
          have z02_ : y6.cell? ⟨bt, 2, none⟩ = some (.int .i64 mk2) := J6.out.at2.cellOf 2 rfl
          have z03_ : y6.cell? ⟨bt, 3, none⟩ = some (.slice B1 m1 d1) := J6.out.at2.cellOf 3 rfl
          have z04_ : y6.cell? ⟨bt, 4, none⟩ = some (.slice B2 m2 d2) := J6.out.at2.cellOf 4 rfl
          have z05_ : y6.cell? ⟨bt, 5, none⟩ = some (.slice B3 m3 d3) := J6.out.at2.cellOf 5 rfl
          have z10_ : y6.cell? ⟨bs, 0, none⟩ = some (.int .i64 tk) := J6.out.at3.cellOf 0 rfl
          have z11_ : y6.cell? ⟨bs, 1, none⟩ = some (.int .i64 of) := J6.out.at3.cellOf 1 rfl
          have z12_ : y6.cell? ⟨bs, 2, none⟩ = some (.int .i64 mk) := J6.out.at3.cellOf 2 rfl
          have z13_ : y6.cell? ⟨bs, 3, none⟩ = some (.slice A1 n1 c1) := J6.out.at3.cellOf 3 rfl
          have z14_ : y6.cell? ⟨bs, 4, none⟩ = some (.slice A2 n2 c2) := J6.out.at3.cellOf 4 rfl
          have z15_ : y6.cell? ⟨bs, 5, none⟩ = some (.slice A3 n3 c3) := J6.out.at3.cellOf 5 rfl
          rcases hS_.out with ⟨rfl, rfl⟩ | ⟨smS, hsmS, hszS, hsyS⟩
          · go_wp2_with fail
            refine (TD.out y6 W _ J6.out (fun w' h => r10.out.old h.tail.tail.tail.tail.tail.tail.tail.tail) (fun w' h => r20.out.old h.tail.tail.tail.tail.tail.tail.tail.tail) (fun w' h => r30.out.old h.tail.tail.tail.tail.tail.tail.tail.tail) (fun w' h => e10.out.old h.tail.tail.tail.tail.tail.tail.tail.tail) (fun w' h => e20.out.old h.tail.tail.tail.tail.tail.tail.tail.tail) (fun w' h => e30.out.old h.tail.tail.tail.tail.tail.tail.tail.tail)).mono ?_
            rintro e y7 ⟨rfl, J7⟩
            replace J7 := Lib.hid J7
            clear J6
            clear z00_ z01_ z02_ z03_ z04_ z05_ z10_ z11_ z12_ z13_ z14_ z15_
            go_wp2_with fail
            refine (begins26 P5 P6 _ p5 _ p6 LS1 LS2 y7 W _ J7.out (fun w' h => h.at1.ls_rd) (fun w' h => h.ls_rd)).mono ?_
            rw [bS (by first | trivial | rfl) (by first | trivial | rfl)]
            rintro e y8 ⟨rfl, z, rfl⟩
            have J8 := Lib.hid (J7.out.drewN z)
            clear J7
            generalize World.drewN y7 z = y9 at J8 ⊢
            go_wp2_with fail
            go_ret
            exact ⟨rfl, J8.out.tail.tail.tail.tail.tail.tail.tail.tail.under_old⟩
          · go_wp2_with fail
            go_ret
            exact ⟨rfl, J6.out.tail.tail.tail.tail.tail.tail.tail.tail.under_old⟩
        · clear bC
          go_wp2_with fail
          go_quiet (fail)
          have KC7 := Lib.hid (KC6.out.tail.tail.drewN nq)
          clear z30_ z31_ z32_ z33_ z20_ z21_ z22_ z23_
          clear qC hsmC hszC hsy_ KC6
          generalize World.drewN xC6 nq = xC7 at *
          have z10_ : xC7.cell? ⟨bs, 0, none⟩ = some (.int .i64 tk) := KC7.out.at1.cellOf 0 rfl
          have z11_ : xC7.cell? ⟨bs, 1, none⟩ = some (.int .i64 of) := KC7.out.at1.cellOf 1 rfl
          have z12_ : xC7.cell? ⟨bs, 2, none⟩ = some (.int .i64 mk) := KC7.out.at1.cellOf 2 rfl
          have z13_ : xC7.cell? ⟨bs, 3, none⟩ = some (.slice A1 n1 c1) := KC7.out.at1.cellOf 3 rfl
          have z14_ : xC7.cell? ⟨bs, 4, none⟩ = some (.slice A2 n2 c2) := KC7.out.at1.cellOf 4 rfl
          have z15_ : xC7.cell? ⟨bs, 5, none⟩ = some (.slice A3 n3 c3) := KC7.out.at1.cellOf 5 rfl
          go_wp2_with fail
          refine (TS1.out xC7 W _ KC7.out (fun w' h => r10.out.old h.tail.tail.tail.tail.tail.tail) (fun w' h => r20.out.old h.tail.tail.tail.tail.tail.tail) (fun w' h => r30.out.old h.tail.tail.tail.tail.tail.tail)).mono ?_
          rintro e y5 ⟨P5, p5, rfl, J5⟩
          replace J5 := Lib.hid J5
          clear KC7
          clear z10_ z11_ z12_ z13_ z14_ z15_
          have z00_ : y5.cell? ⟨bt, 0, none⟩ = some (.int .i64 tk2) := J5.out.at1.cellOf 0 rfl
          have z01_ : y5.cell? ⟨bt, 1, none⟩ = some (.int .i64 of2) := J5.out.at1.cellOf 1 rfl
          have z02_ : y5.cell? ⟨bt, 2, none⟩ = some (.int .i64 mk2) := J5.out.at1.cellOf 2 rfl
          have z03_ : y5.cell? ⟨bt, 3, none⟩ = some (.slice B1 m1 d1) := J5.out.at1.cellOf 3 rfl
          have z04_ : y5.cell? ⟨bt, 4, none⟩ = some (.slice B2 m2 d2) := J5.out.at1.cellOf 4 rfl
          have z05_ : y5.cell? ⟨bt, 5, none⟩ = some (.slice B3 m3 d3) := J5.out.at1.cellOf 5 rfl
          go_wp2_with fail
          refine (TS2.out y5 W _ J5.out (fun w' h => e10.out.old h.tail.tail.tail.tail.tail.tail.tail) (fun w' h => e20.out.old h.tail.tail.tail.tail.tail.tail.tail) (fun w' h => e30.out.old h.tail.tail.tail.tail.tail.tail.tail)).mono ?_
          rintro e y6 ⟨P6, p6, rfl, J6⟩
          replace J6 := Lib.hid J6
          clear J5
          clear z00_ z01_ z02_ z03_ z04_ z05_
          have z00_ : y6.cell? ⟨bt, 0, none⟩ = some (.int .i64 tk2) := J6.out.at2.cellOf 0 rfl
          have z01_ : y6.cell? ⟨bt, 1, none⟩ = some (.int .i64 of2) := J6.out.at2.cellOf 1 rfl
          have z02_ : y6.cell? ⟨bt, 2, none⟩ = some (.int .i64 mk2) := J6.out.at2.cellOf 2 rfl
          have z03_ : y6.cell? ⟨bt, 3, none⟩ = some (.slice B1 m1 d1) := J6.out.at2.cellOf 3 rfl
          have z04_ : y6.cell? ⟨bt, 4, none⟩ = some (.slice B2 m2 d2) := J6.out.at2.cellOf 4 rfl
          have z05_ : y6.cell? ⟨bt, 5, none⟩ = some (.slice B3 m3 d3) := J6.out.at2.cellOf 5 rfl
          have z10_ : y6.cell? ⟨bs, 0, none⟩ = some (.int .i64 tk) := J6.out.at3.cellOf 0 rfl
          have z11_ : y6.cell? ⟨bs, 1, none⟩ = some (.int .i64 of) := J6.out.at3.cellOf 1 rfl
          have z12_ : y6.cell? ⟨bs, 2, none⟩ = some (.int .i64 mk) := J6.out.at3.cellOf 2 rfl
          have z13_ : y6.cell? ⟨bs, 3, none⟩ = some (.slice A1 n1 c1) := J6.out.at3.cellOf 3 rfl
          have z14_ : y6.cell? ⟨bs, 4, none⟩ = some (.slice A2 n2 c2) := J6.out.at3.cellOf 4 rfl
          have z15_ : y6.cell? ⟨bs, 5, none⟩ = some (.slice A3 n3 c3) := J6.out.at3.cellOf 5 rfl
          rcases hS_.out with ⟨rfl, rfl⟩ | ⟨smS, hsmS, hszS, hsyS⟩
          · go_wp2_with fail
            refine (TD.out y6 W _ J6.out (fun w' h => r10.out.old h.tail.tail.tail.tail.tail.tail.tail.tail) (fun w' h => r20.out.old h.tail.tail.tail.tail.tail.tail.tail.tail) (fun w' h => r30.out.old h.tail.tail.tail.tail.tail.tail.tail.tail) (fun w' h => e10.out.old h.tail.tail.tail.tail.tail.tail.tail.tail) (fun w' h => e20.out.old h.tail.tail.tail.tail.tail.tail.tail.tail) (fun w' h => e30.out.old h.tail.tail.tail.tail.tail.tail.tail.tail)).mono ?_
            rintro e y7 ⟨rfl, J7⟩
            replace J7 := Lib.hid J7
            clear J6
            clear z00_ z01_ z02_ z03_ z04_ z05_ z10_ z11_ z12_ z13_ z14_ z15_
            go_wp2_with fail
            refine (begins26 P5 P6 _ p5 _ p6 LS1 LS2 y7 W _ J7.out (fun w' h => h.at1.ls_rd) (fun w' h => h.ls_rd)).mono ?_
            rw [bS (by first | trivial | rfl) (by first | trivial | rfl)]
            rintro e y8 ⟨rfl, z, rfl⟩
            have J8 := Lib.hid (J7.out.drewN z)
            clear J7
            generalize World.drewN y7 z = y9 at J8 ⊢
            go_wp2_with fail
            go_ret
            exact ⟨rfl, J8.out.tail.tail.tail.tail.tail.tail.tail.tail.under_old⟩
          · go_wp2_with fail
            go_ret
            exact ⟨rfl, J6.out.tail.tail.tail.tail.tail.tail.tail.tail.under_old⟩
theorem ctwf_of2 {c : Ct} (h : (Lit.int .i64 c.1).wf = true ∧ (Lit.int .u64 c.2.1).wf = true ∧ (Lit.int .u64 c.2.2.1).wf = true ∧ (Lit.int .i64 c.2.2.2).wf = true) : CtWf c := ⟨u64_of2 h.2.1, u64_of2 h.2.2.1⟩
theorem codecapart_walk2 (f g : Fr) (c d : Ct) (r t : Int × Int × Int × Slc × Slc × Slc) (W : World) (hf : FrWf f) (hg : FrWf g) (hc : CtWf c) (hd : CtWf d) (h : SnapIs W r) (h2 : SnapIs W t) :
    Calls Try.prog 5 #[.agg (frc f), .agg (frc g), .agg (ctc c), .agg (ctc d), .agg (snc r), .agg (snc t)] W fun e w' => e = .returned (.bool true) ∧ Below W.heap.size W w' := by
  obtain ⟨hm, ⟨ms, r1, k1⟩, ⟨ps, r2, k2⟩, ⟨os, r3, k3⟩⟩ := h
  obtain ⟨hm2, ⟨ms2, e1, l1⟩, ⟨ps2, e2, l2⟩, ⟨os2, e3, l3⟩⟩ := h2
  exact codecapart_walk f g c d hf hg hc hd _ _ _ _ _ _ _ _ _ _ _ _ _ _ _ _ _ _ _ _ _ _ _ _ ms ms2 ps ps2 os os2 W hm hm2 r1 e1 r2 e2 r3 e3 k1 k2 k3 l1 l2 l3
end Go.Proofs.Ytjdkpogkhecijaa

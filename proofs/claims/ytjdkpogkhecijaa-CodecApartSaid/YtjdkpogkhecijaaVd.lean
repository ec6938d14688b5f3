import Derived.Test.YtjdkpogkhecijaaVc
import Derived.Test.YtjdkpogkhecijaaTb
import Derived.Test.YtjdkpogkhecijaaOf
import Derived.Test.YtjdkpogkhecijaaOc
import Derived.IntWalk
import Derived.Test.YtjdkpogkhecijaaProg
import Derived.Test.YtjdkpogkhecijaaLs
import Derived.Outline
import Derived.StillTailTactics
import Derived.Deep.DeepCutAuto
import Derived.Deep.CutBlock
import Derived.Deep.LoopGhost
import Derived.Deep.QuietTactic
import Derived.BigQuiet
import Derived.Deep.RegionHeld3
import Derived.Deep.RegionLaw
set_option linter.unusedVariables false
set_option linter.unusedSimpArgs false
namespace Go.Proofs.Ytjdkpogkhecijaa
open Go.RowKit
def snEq (s t : Sn) : Bool := decide (s.1 = t.1) && (decide (s.2.1 = t.2.1) && (decide (s.2.2.1 = t.2.2.1) && (decide (s.2.2.2.1 = t.2.2.2.1) && (decide (s.2.2.2.2.1 = t.2.2.2.2.1) && decide (s.2.2.2.2.2 = t.2.2.2.2.2)))))
theorem snEq_iff (s t : Sn) : snEq s t = true ↔ s = t := by
  obtain ⟨a, b, c, d, e, f⟩ := s
  obtain ⟨a2, b2, c2, d2, e2, f2⟩ := t
  unfold snEq
  simp only [Bool.and_eq_true, decide_eq_true_eq, Prod.mk.injEq]
theorem beg_good {α : Type} {rd rdR : Rst → α × Rst} {enc : α → List Int} {ok fine : α → Prop} (g : Good rd rdR enc ok fine) {x y : α} (hx : ok x) (hy : ok y) {b : Bool} (hb : b = true ↔ x = y) : beg (enc x) (enc y) = b := by
  have key : ∀ {x y : α}, ok x → ok y → (enc x).length ≤ (enc y).length → (enc x).take (min (enc x).length (enc y).length) = (enc y).take (min (enc x).length (enc y).length) → x = y := fun {x y} hx hy hl h => by
    rw [Nat.min_eq_left hl, List.take_length] at h
    have h1 := g.full x ((enc y).drop (enc x).length) hx
    rw [h, List.length_take, Nat.min_eq_left hl, List.take_append_drop] at h1
    have h2 := g.full y [] hy
    rw [List.append_nil, h1] at h2
    injection h2
  unfold beg
  by_cases hxy : x = y
  · rw [hb.2 hxy, hxy]
    simp
  · rw [show b = false by cases hbb : b with
      | false => rfl
      | true => exact absurd (hb.1 hbb) hxy]
    rw [decide_eq_false]
    intro h
    rcases Nat.le_total (enc x).length (enc y).length with hl | hl
    · exact hxy (key hx hy hl h)
    · rw [Nat.min_comm] at h
      exact hxy (key hy hx hl h.symm).symm
theorem beg_fr {f g : Fr} (hf : FrWf f) (hg : FrWf g) (h1 : ferr f = 0) (h2 : ferr g = 0) : beg (fout f) (fout g) = decide (f = g) := by
  have r : ∀ {f : Fr}, ferr f = 0 → Right f := fun {f} h => by
    unfold ferr at h
    by_cases hr : Right f
    · exact hr
    · rw [if_neg hr] at h; cases h
  rw [show fout f = frb f from if_pos (r h1), show fout g = frb g from if_pos (r h2)]
  exact beg_good good_frame ⟨r h1, hf⟩ ⟨r h2, hg⟩ decide_eq_true_iff
theorem beg_ct {f g : Ct} (hf : CtWf f) (hg : CtWf g) (h1 : cerr f = 0) (h2 : cerr g = 0) : beg (cout f) (cout g) = decide (f = g) := by
  have r : ∀ {f : Ct}, cerr f = 0 → CtOk f := fun {f} h => by
    unfold cerr at h
    by_cases hr : CtOk f
    · exact hr
    · rw [if_neg hr] at h; cases h
  have k : ∀ {c : Ct}, CtOk c → CtWf c → (0 ≤ c.1 ∧ c.1 < 256 ^ 1) ∧ (0 ≤ c.2.1 ∧ c.2.1 < 256 ^ 8) ∧ (0 ≤ c.2.2.1 ∧ c.2.2.1 < 256 ^ 8) ∧ 0 ≤ c.2.2.2 ∧ c.2.2.2 < 256 ^ 2 := fun {c} h hw => ⟨by unfold CtOk at h; rw [p1]; omega, by rw [p8]; exact hw.1, by rw [p8]; exact hw.2, by unfold CtOk at h; rw [show (256 : Int) ^ 2 = 65536 from rfl]; omega⟩
  rw [show cout f = ctb f from if_pos (r h1), show cout g = ctb g from if_pos (r h2)]
  exact beg_good good_ct (k (r h1) hf) (k (r h2) hg) decide_eq_true_iff
theorem ferr_or (f : Fr) : ferr f = 0 ∨ ferr f = 10 := by unfold ferr; split; exact .inl rfl; exact .inr rfl
theorem cerr_or (f : Ct) : cerr f = 0 ∨ cerr f = 10 := by unfold cerr; split; exact .inl rfl; exact .inr rfl
theorem snErr_or3 (s : Sn) : snErr s = 0 ∨ (0 < snErr s ∧ snErr s ≤ 12) := by
  unfold snErr
  split
  · right; omega
  · split
    · right; omega
    · left; rfl
theorem eqF (f g : Fr) (w : World) : (binOp .eql 37 (.agg #[.int .i64 f.1, .int .i64 f.2.1.1, .int .i64 f.2.1.2.1, .int .i64 f.2.1.2.2, .int .i64 f.2.2.1, .int .u64 f.2.2.2.1, .bool f.2.2.2.2]) (.agg #[.int .i64 g.1, .int .i64 g.2.1.1, .int .i64 g.2.1.2.1, .int .i64 g.2.1.2.2, .int .i64 g.2.2.1, .int .u64 g.2.2.2.1, .bool g.2.2.2.2])).run Try.prog w = .ok (.bool (decide (f = g))) w := by
  have u := Try.underlying37
  obtain ⟨k, ⟨r1, r2, r3⟩, m, n, o⟩ := f
  obtain ⟨k', ⟨r1', r2', r3'⟩, m', n', o'⟩ := g
  by_cases h : k = k' ∧ r1 = r1' ∧ r2 = r2' ∧ r3 = r3' ∧ m = m' ∧ n = n' ∧ o = o'
  · obtain ⟨rfl, rfl, rfl, rfl, rfl, rfl, rfl⟩ := h
    simp [go_sem]
  · rw [decide_eq_false (by intro e; simp only [Prod.mk.injEq] at e; exact h ⟨e.1, e.2.1.1, e.2.1.2.1, e.2.1.2.2, e.2.2.1, e.2.2.2.1, e.2.2.2.2⟩)]
    simp [go_sem]
    intro a1 a2 a3 a4 a5 a6 a7
    exact h ⟨a1, a2, a3, a4, a5, a6, a7⟩
theorem eqC (f g : Ct) (w : World) : (binOp .eql 39 (.agg #[.int .i64 f.1, .int .u64 f.2.1, .int .u64 f.2.2.1, .int .i64 f.2.2.2]) (.agg #[.int .i64 g.1, .int .u64 g.2.1, .int .u64 g.2.2.1, .int .i64 g.2.2.2])).run Try.prog w = .ok (.bool (decide (f = g))) w := by
  have u := Try.underlying39
  obtain ⟨k, r1, r2, r3⟩ := f
  obtain ⟨k', r1', r2', r3'⟩ := g
  by_cases h : k = k' ∧ r1 = r1' ∧ r2 = r2' ∧ r3 = r3'
  · obtain ⟨rfl, rfl, rfl, rfl⟩ := h
    simp [go_sem]
  · rw [decide_eq_false (by intro e; simp only [Prod.mk.injEq] at e; exact h ⟨e.1, e.2.1, e.2.2.1, e.2.2.2⟩)]
    simp [go_sem]
    intro a1 a2 a3 a4
    exact h ⟨a1, a2, a3, a4⟩
set_option maxRecDepth 100000 in
set_option maxHeartbeats 8000000 in
theorem snapdec28 (tk of mk tk2 of2 mk2 : Int) (A1 A2 A3 B1 B2 B3 : Option Addr) (n1 c1 n2 c2 n3 c3 m1 d1 m2 d2 m3 d3 : Nat) (ms ms2 : List Int) (ps ps2 : List Pn4) (os os2 : List Ot) (w w0 : World) (R : List HP) (H : Hs w0 w R)
    (h1 : ∀ w', Hs w0 w' R → RdL (Enc.num .i64) w' (.slice A1 n1 c1) ms) (h2 : ∀ w', Hs w0 w' R → RdL ((Enc.num .i64).pair (((Enc.num .i64).pair (Enc.num .i64)).pair (Enc.num .i64))) w' (.slice A2 n2 c2) ps) (h3 : ∀ w', Hs w0 w' R → RdL ((Enc.num .i64).pair ((Enc.num .i64).pair (((Enc.num .i64).pair ((Enc.num .i64).pair (Enc.num .i64))).pair ((Enc.num .i64).pair ((Enc.num .u64).pair Enc.flag))))) w' (.slice A3 n3 c3) os)
    (k1 : ∀ w', Hs w0 w' R → RdL (Enc.num .i64) w' (.slice B1 m1 d1) ms2) (k2 : ∀ w', Hs w0 w' R → RdL ((Enc.num .i64).pair (((Enc.num .i64).pair (Enc.num .i64)).pair (Enc.num .i64))) w' (.slice B2 m2 d2) ps2) (k3 : ∀ w', Hs w0 w' R → RdL ((Enc.num .i64).pair ((Enc.num .i64).pair (((Enc.num .i64).pair ((Enc.num .i64).pair (Enc.num .i64))).pair ((Enc.num .i64).pair ((Enc.num .u64).pair Enc.flag))))) w' (.slice B3 m3 d3) os2) :
    Calls Try.prog 28 #[.agg #[.int .i64 tk, .int .i64 of, .int .i64 mk, .slice A1 n1 c1, .slice A2 n2 c2, .slice A3 n3 c3], .agg #[.int .i64 tk2, .int .i64 of2, .int .i64 mk2, .slice B1 m1 d1, .slice B2 m2 d2, .slice B3 m3 d3]] w fun e w' => e = .returned (.bool (snEq (tk, of, mk, ms, ps, os) (tk2, of2, mk2, ms2, ps2, os2))) ∧ Hs w0 w' R := by
  have K := ((H.alloc (.cells #[.int .i64 tk, .int .i64 of, .int .i64 mk, .slice A1 n1 c1, .slice A2 n2 c2, .slice A3 n3 c3] 55)).alloc (.cells #[.int .i64 tk2, .int .i64 of2, .int .i64 mk2, .slice B1 m1 d1, .slice B2 m2 d2, .slice B3 m3 d3] 55))
  rw [show (w.alloc (.cells #[.int .i64 tk, .int .i64 of, .int .i64 mk, .slice A1 n1 c1, .slice A2 n2 c2, .slice A3 n3 c3] 55)).heap.size = w.heap.size + 1 from Array.size_push ..] at K
  obtain ⟨res, hres⟩ : ∃ r, snEq (tk, of, mk, ms, ps, os) (tk2, of2, mk2, ms2, ps2, os2) = r := ⟨_, rfl⟩
  rw [hres]
  unfold snEq at hres
  dsimp only at hres
  have T1 : Hid (∀ w1 R2, Hs w0 w1 (R2 ++ R) → (∀ w', Hs w0 w' (R2 ++ R) → Hs w0 w' R) → Calls Try.prog 56 #[.slice A1 n1 c1, .slice B1 m1 d1] w1 fun e w' => e = .returned (.bool (decide (ms = ms2))) ∧ Hs w0 w' (R2 ++ R)) := fun w1 R2 K hR => by
    refine (eqlist56 _ _ ms ms2 w1 (h1 w1 (hR w1 K)) (k1 w1 (hR w1 K))).mono ?_
    rintro e w' ⟨rfl, n, rfl⟩
    exact ⟨rfl, K.drewN n⟩
  have T2 : Hid (∀ w1 R2, Hs w0 w1 (R2 ++ R) → (∀ w', Hs w0 w' (R2 ++ R) → Hs w0 w' R) → Calls Try.prog 57 #[.slice A2 n2 c2, .slice B2 m2 d2] w1 fun e w' => e = .returned (.bool (decide (ps = ps2))) ∧ Hs w0 w' (R2 ++ R)) := fun w1 R2 K hR => by
    refine (eqagg57 _ _ ps ps2 w1 (h2 w1 (hR w1 K)) (k2 w1 (hR w1 K))).mono ?_
    rintro e w' ⟨rfl, n, rfl⟩
    exact ⟨rfl, K.drewN n⟩
  have T3 : Hid (∀ w1 R2, Hs w0 w1 (R2 ++ R) → (∀ w', Hs w0 w' (R2 ++ R) → Hs w0 w' R) → Calls Try.prog 58 #[.slice A3 n3 c3, .slice B3 m3 d3] w1 fun e w' => e = .returned (.bool (decide (os = os2))) ∧ Hs w0 w' (R2 ++ R)) := fun w1 R2 K hR => by
    refine (eqagg58 _ _ os os2 w1 (h3 w1 (hR w1 K)) (k3 w1 (hR w1 K))).mono ?_
    rintro e w' ⟨rfl, n, rfl⟩
    exact ⟨rfl, K.drewN n⟩
  replace K := Lib.hid K
  clear H h1 h2 h3 k1 k2 k3
  by_cases g0 : tk = tk2
  rotate_left
  · have hr0 : res = false := by rw [← hres, decide_eq_false g0]; simp
    subst hr0
    have e0 : (tk == tk2) = false := beq_eq_false_iff_ne.2 g0
    clear T1 T2 T3 hres g0
    go_enter Try.func28, Try.ntmps28
    go_upto_region 1 with (fail)
    generalize World.alloc _ _ = w1 at K ⊢
    generalize w.heap.size + 1 = p at K ⊢
    generalize w.heap.size = q at K ⊢
    have p0_ : w1.cell? ⟨p, 0, none⟩ = some (.int .i64 tk2) := K.out.cellOf 0 rfl
    have p1_ : w1.cell? ⟨p, 1, none⟩ = some (.int .i64 of2) := K.out.cellOf 1 rfl
    have p2_ : w1.cell? ⟨p, 2, none⟩ = some (.int .i64 mk2) := K.out.cellOf 2 rfl
    have p3_ : w1.cell? ⟨p, 3, none⟩ = some (.slice B1 m1 d1) := K.out.cellOf 3 rfl
    have p4_ : w1.cell? ⟨p, 4, none⟩ = some (.slice B2 m2 d2) := K.out.cellOf 4 rfl
    have p5_ : w1.cell? ⟨p, 5, none⟩ = some (.slice B3 m3 d3) := K.out.cellOf 5 rfl
    have q0_ : w1.cell? ⟨q, 0, none⟩ = some (.int .i64 tk) := K.out.at1.cellOf 0 rfl
    have q1_ : w1.cell? ⟨q, 1, none⟩ = some (.int .i64 of) := K.out.at1.cellOf 1 rfl
    have q2_ : w1.cell? ⟨q, 2, none⟩ = some (.int .i64 mk) := K.out.at1.cellOf 2 rfl
    have q3_ : w1.cell? ⟨q, 3, none⟩ = some (.slice A1 n1 c1) := K.out.at1.cellOf 3 rfl
    have q4_ : w1.cell? ⟨q, 4, none⟩ = some (.slice A2 n2 c2) := K.out.at1.cellOf 4 rfl
    have q5_ : w1.cell? ⟨q, 5, none⟩ = some (.slice A3 n3 c3) := K.out.at1.cellOf 5 rfl
    go_wp2_with fail
    go_ret
    exact ⟨rfl, K.out.tail.tail⟩
  subst g0
  by_cases g1 : of = of2
  rotate_left
  · have hr0 : res = false := by rw [← hres, decide_eq_false g1]; simp
    subst hr0
    have e1 : (of == of2) = false := beq_eq_false_iff_ne.2 g1
    clear T1 T2 T3 hres g1
    go_enter Try.func28, Try.ntmps28
    go_upto_region 1 with (fail)
    generalize World.alloc _ _ = w1 at K ⊢
    generalize w.heap.size + 1 = p at K ⊢
    generalize w.heap.size = q at K ⊢
    have p0_ : w1.cell? ⟨p, 0, none⟩ = some (.int .i64 tk) := K.out.cellOf 0 rfl
    have p1_ : w1.cell? ⟨p, 1, none⟩ = some (.int .i64 of2) := K.out.cellOf 1 rfl
    have p2_ : w1.cell? ⟨p, 2, none⟩ = some (.int .i64 mk2) := K.out.cellOf 2 rfl
    have p3_ : w1.cell? ⟨p, 3, none⟩ = some (.slice B1 m1 d1) := K.out.cellOf 3 rfl
    have p4_ : w1.cell? ⟨p, 4, none⟩ = some (.slice B2 m2 d2) := K.out.cellOf 4 rfl
    have p5_ : w1.cell? ⟨p, 5, none⟩ = some (.slice B3 m3 d3) := K.out.cellOf 5 rfl
    have q0_ : w1.cell? ⟨q, 0, none⟩ = some (.int .i64 tk) := K.out.at1.cellOf 0 rfl
    have q1_ : w1.cell? ⟨q, 1, none⟩ = some (.int .i64 of) := K.out.at1.cellOf 1 rfl
    have q2_ : w1.cell? ⟨q, 2, none⟩ = some (.int .i64 mk) := K.out.at1.cellOf 2 rfl
    have q3_ : w1.cell? ⟨q, 3, none⟩ = some (.slice A1 n1 c1) := K.out.at1.cellOf 3 rfl
    have q4_ : w1.cell? ⟨q, 4, none⟩ = some (.slice A2 n2 c2) := K.out.at1.cellOf 4 rfl
    have q5_ : w1.cell? ⟨q, 5, none⟩ = some (.slice A3 n3 c3) := K.out.at1.cellOf 5 rfl
    go_wp2_with fail
    go_ret
    exact ⟨rfl, K.out.tail.tail⟩
  subst g1
  by_cases g2 : mk = mk2
  rotate_left
  · have hr0 : res = false := by rw [← hres, decide_eq_false g2]; simp
    subst hr0
    have e2 : (mk == mk2) = false := beq_eq_false_iff_ne.2 g2
    clear T1 T2 T3 hres g2
    go_enter Try.func28, Try.ntmps28
    go_upto_region 1 with (fail)
    generalize World.alloc _ _ = w1 at K ⊢
    generalize w.heap.size + 1 = p at K ⊢
    generalize w.heap.size = q at K ⊢
    have p0_ : w1.cell? ⟨p, 0, none⟩ = some (.int .i64 tk) := K.out.cellOf 0 rfl
    have p1_ : w1.cell? ⟨p, 1, none⟩ = some (.int .i64 of) := K.out.cellOf 1 rfl
    have p2_ : w1.cell? ⟨p, 2, none⟩ = some (.int .i64 mk2) := K.out.cellOf 2 rfl
    have p3_ : w1.cell? ⟨p, 3, none⟩ = some (.slice B1 m1 d1) := K.out.cellOf 3 rfl
    have p4_ : w1.cell? ⟨p, 4, none⟩ = some (.slice B2 m2 d2) := K.out.cellOf 4 rfl
    have p5_ : w1.cell? ⟨p, 5, none⟩ = some (.slice B3 m3 d3) := K.out.cellOf 5 rfl
    have q0_ : w1.cell? ⟨q, 0, none⟩ = some (.int .i64 tk) := K.out.at1.cellOf 0 rfl
    have q1_ : w1.cell? ⟨q, 1, none⟩ = some (.int .i64 of) := K.out.at1.cellOf 1 rfl
    have q2_ : w1.cell? ⟨q, 2, none⟩ = some (.int .i64 mk) := K.out.at1.cellOf 2 rfl
    have q3_ : w1.cell? ⟨q, 3, none⟩ = some (.slice A1 n1 c1) := K.out.at1.cellOf 3 rfl
    have q4_ : w1.cell? ⟨q, 4, none⟩ = some (.slice A2 n2 c2) := K.out.at1.cellOf 4 rfl
    have q5_ : w1.cell? ⟨q, 5, none⟩ = some (.slice A3 n3 c3) := K.out.at1.cellOf 5 rfl
    go_wp2_with fail
    go_ret
    exact ⟨rfl, K.out.tail.tail⟩
  subst g2
  by_cases g3 : ms = ms2
  rotate_left
  · have hr0 : res = false := by rw [← hres, decide_eq_false g3]; simp
    subst hr0
    rw [decide_eq_false g3] at T1
    clear hres g3 T2 T3
    go_enter Try.func28, Try.ntmps28
    go_upto_region 1 with (fail)
    generalize World.alloc _ _ = w1 at K ⊢
    generalize w.heap.size + 1 = p at K ⊢
    generalize w.heap.size = q at K ⊢
    have p0_ : w1.cell? ⟨p, 0, none⟩ = some (.int .i64 tk) := K.out.cellOf 0 rfl
    have p1_ : w1.cell? ⟨p, 1, none⟩ = some (.int .i64 of) := K.out.cellOf 1 rfl
    have p2_ : w1.cell? ⟨p, 2, none⟩ = some (.int .i64 mk) := K.out.cellOf 2 rfl
    have p3_ : w1.cell? ⟨p, 3, none⟩ = some (.slice B1 m1 d1) := K.out.cellOf 3 rfl
    have p4_ : w1.cell? ⟨p, 4, none⟩ = some (.slice B2 m2 d2) := K.out.cellOf 4 rfl
    have p5_ : w1.cell? ⟨p, 5, none⟩ = some (.slice B3 m3 d3) := K.out.cellOf 5 rfl
    have q0_ : w1.cell? ⟨q, 0, none⟩ = some (.int .i64 tk) := K.out.at1.cellOf 0 rfl
    have q1_ : w1.cell? ⟨q, 1, none⟩ = some (.int .i64 of) := K.out.at1.cellOf 1 rfl
    have q2_ : w1.cell? ⟨q, 2, none⟩ = some (.int .i64 mk) := K.out.at1.cellOf 2 rfl
    have q3_ : w1.cell? ⟨q, 3, none⟩ = some (.slice A1 n1 c1) := K.out.at1.cellOf 3 rfl
    have q4_ : w1.cell? ⟨q, 4, none⟩ = some (.slice A2 n2 c2) := K.out.at1.cellOf 4 rfl
    have q5_ : w1.cell? ⟨q, 5, none⟩ = some (.slice A3 n3 c3) := K.out.at1.cellOf 5 rfl
    go_wp2_with fail
    refine (T1.out w1 [Blk p (.cells #[.int .i64 tk, .int .i64 of, .int .i64 mk, .slice B1 m1 d1, .slice B2 m2 d2, .slice B3 m3 d3] 55), Blk q (.cells #[.int .i64 tk, .int .i64 of, .int .i64 mk, .slice A1 n1 c1, .slice A2 n2 c2, .slice A3 n3 c3] 55)] K.out (fun w' h => h.tail.tail)).mono ?_
    rintro e x1 ⟨rfl, KE1⟩
    clear p0_ p1_ p2_ p3_ p4_ p5_ q0_ q1_ q2_ q3_ q4_ q5_
    replace KE1 := Lib.hid KE1
    clear K
    go_wp2_with fail
    go_ret
    exact ⟨rfl, KE1.out.tail.tail⟩
  rw [decide_eq_true g3] at T1
  by_cases g4 : ps = ps2
  rotate_left
  · have hr0 : res = false := by rw [← hres, decide_eq_false g4]; simp
    subst hr0
    rw [decide_eq_false g4] at T2
    clear hres g4 T3
    go_enter Try.func28, Try.ntmps28
    go_upto_region 1 with (fail)
    generalize World.alloc _ _ = w1 at K ⊢
    generalize w.heap.size + 1 = p at K ⊢
    generalize w.heap.size = q at K ⊢
    have p0_ : w1.cell? ⟨p, 0, none⟩ = some (.int .i64 tk) := K.out.cellOf 0 rfl
    have p1_ : w1.cell? ⟨p, 1, none⟩ = some (.int .i64 of) := K.out.cellOf 1 rfl
    have p2_ : w1.cell? ⟨p, 2, none⟩ = some (.int .i64 mk) := K.out.cellOf 2 rfl
    have p3_ : w1.cell? ⟨p, 3, none⟩ = some (.slice B1 m1 d1) := K.out.cellOf 3 rfl
    have p4_ : w1.cell? ⟨p, 4, none⟩ = some (.slice B2 m2 d2) := K.out.cellOf 4 rfl
    have p5_ : w1.cell? ⟨p, 5, none⟩ = some (.slice B3 m3 d3) := K.out.cellOf 5 rfl
    have q0_ : w1.cell? ⟨q, 0, none⟩ = some (.int .i64 tk) := K.out.at1.cellOf 0 rfl
    have q1_ : w1.cell? ⟨q, 1, none⟩ = some (.int .i64 of) := K.out.at1.cellOf 1 rfl
    have q2_ : w1.cell? ⟨q, 2, none⟩ = some (.int .i64 mk) := K.out.at1.cellOf 2 rfl
    have q3_ : w1.cell? ⟨q, 3, none⟩ = some (.slice A1 n1 c1) := K.out.at1.cellOf 3 rfl
    have q4_ : w1.cell? ⟨q, 4, none⟩ = some (.slice A2 n2 c2) := K.out.at1.cellOf 4 rfl
    have q5_ : w1.cell? ⟨q, 5, none⟩ = some (.slice A3 n3 c3) := K.out.at1.cellOf 5 rfl
    go_wp2_with fail
    refine (T1.out w1 [Blk p (.cells #[.int .i64 tk, .int .i64 of, .int .i64 mk, .slice B1 m1 d1, .slice B2 m2 d2, .slice B3 m3 d3] 55), Blk q (.cells #[.int .i64 tk, .int .i64 of, .int .i64 mk, .slice A1 n1 c1, .slice A2 n2 c2, .slice A3 n3 c3] 55)] K.out (fun w' h => h.tail.tail)).mono ?_
    rintro e x1 ⟨rfl, KE1⟩
    clear p0_ p1_ p2_ p3_ p4_ p5_ q0_ q1_ q2_ q3_ q4_ q5_
    have p0_ : x1.cell? ⟨p, 0, none⟩ = some (.int .i64 tk) := KE1.cellOf 0 rfl
    have p1_ : x1.cell? ⟨p, 1, none⟩ = some (.int .i64 of) := KE1.cellOf 1 rfl
    have p2_ : x1.cell? ⟨p, 2, none⟩ = some (.int .i64 mk) := KE1.cellOf 2 rfl
    have p3_ : x1.cell? ⟨p, 3, none⟩ = some (.slice B1 m1 d1) := KE1.cellOf 3 rfl
    have p4_ : x1.cell? ⟨p, 4, none⟩ = some (.slice B2 m2 d2) := KE1.cellOf 4 rfl
    have p5_ : x1.cell? ⟨p, 5, none⟩ = some (.slice B3 m3 d3) := KE1.cellOf 5 rfl
    have q0_ : x1.cell? ⟨q, 0, none⟩ = some (.int .i64 tk) := KE1.at1.cellOf 0 rfl
    have q1_ : x1.cell? ⟨q, 1, none⟩ = some (.int .i64 of) := KE1.at1.cellOf 1 rfl
    have q2_ : x1.cell? ⟨q, 2, none⟩ = some (.int .i64 mk) := KE1.at1.cellOf 2 rfl
    have q3_ : x1.cell? ⟨q, 3, none⟩ = some (.slice A1 n1 c1) := KE1.at1.cellOf 3 rfl
    have q4_ : x1.cell? ⟨q, 4, none⟩ = some (.slice A2 n2 c2) := KE1.at1.cellOf 4 rfl
    have q5_ : x1.cell? ⟨q, 5, none⟩ = some (.slice A3 n3 c3) := KE1.at1.cellOf 5 rfl
    replace KE1 := Lib.hid KE1
    clear K
    go_wp2_with fail
    refine (T2.out x1 [Blk p (.cells #[.int .i64 tk, .int .i64 of, .int .i64 mk, .slice B1 m1 d1, .slice B2 m2 d2, .slice B3 m3 d3] 55), Blk q (.cells #[.int .i64 tk, .int .i64 of, .int .i64 mk, .slice A1 n1 c1, .slice A2 n2 c2, .slice A3 n3 c3] 55)] KE1.out (fun w' h => h.tail.tail)).mono ?_
    rintro e x2 ⟨rfl, KE2⟩
    clear p0_ p1_ p2_ p3_ p4_ p5_ q0_ q1_ q2_ q3_ q4_ q5_
    replace KE2 := Lib.hid KE2
    clear KE1
    go_wp2_with fail
    go_ret
    exact ⟨rfl, KE2.out.tail.tail⟩
  rw [decide_eq_true g4] at T2
  by_cases g5 : os = os2
  rotate_left
  · have hr0 : res = false := by rw [← hres, decide_eq_false g5]; simp
    subst hr0
    rw [decide_eq_false g5] at T3
    clear hres g5 
    go_enter Try.func28, Try.ntmps28
    go_upto_region 1 with (fail)
    generalize World.alloc _ _ = w1 at K ⊢
    generalize w.heap.size + 1 = p at K ⊢
    generalize w.heap.size = q at K ⊢
    have p0_ : w1.cell? ⟨p, 0, none⟩ = some (.int .i64 tk) := K.out.cellOf 0 rfl
    have p1_ : w1.cell? ⟨p, 1, none⟩ = some (.int .i64 of) := K.out.cellOf 1 rfl
    have p2_ : w1.cell? ⟨p, 2, none⟩ = some (.int .i64 mk) := K.out.cellOf 2 rfl
    have p3_ : w1.cell? ⟨p, 3, none⟩ = some (.slice B1 m1 d1) := K.out.cellOf 3 rfl
    have p4_ : w1.cell? ⟨p, 4, none⟩ = some (.slice B2 m2 d2) := K.out.cellOf 4 rfl
    have p5_ : w1.cell? ⟨p, 5, none⟩ = some (.slice B3 m3 d3) := K.out.cellOf 5 rfl
    have q0_ : w1.cell? ⟨q, 0, none⟩ = some (.int .i64 tk) := K.out.at1.cellOf 0 rfl
    have q1_ : w1.cell? ⟨q, 1, none⟩ = some (.int .i64 of) := K.out.at1.cellOf 1 rfl
    have q2_ : w1.cell? ⟨q, 2, none⟩ = some (.int .i64 mk) := K.out.at1.cellOf 2 rfl
    have q3_ : w1.cell? ⟨q, 3, none⟩ = some (.slice A1 n1 c1) := K.out.at1.cellOf 3 rfl
    have q4_ : w1.cell? ⟨q, 4, none⟩ = some (.slice A2 n2 c2) := K.out.at1.cellOf 4 rfl
    have q5_ : w1.cell? ⟨q, 5, none⟩ = some (.slice A3 n3 c3) := K.out.at1.cellOf 5 rfl
    go_wp2_with fail
    refine (T1.out w1 [Blk p (.cells #[.int .i64 tk, .int .i64 of, .int .i64 mk, .slice B1 m1 d1, .slice B2 m2 d2, .slice B3 m3 d3] 55), Blk q (.cells #[.int .i64 tk, .int .i64 of, .int .i64 mk, .slice A1 n1 c1, .slice A2 n2 c2, .slice A3 n3 c3] 55)] K.out (fun w' h => h.tail.tail)).mono ?_
    rintro e x1 ⟨rfl, KE1⟩
    clear p0_ p1_ p2_ p3_ p4_ p5_ q0_ q1_ q2_ q3_ q4_ q5_
    have p0_ : x1.cell? ⟨p, 0, none⟩ = some (.int .i64 tk) := KE1.cellOf 0 rfl
    have p1_ : x1.cell? ⟨p, 1, none⟩ = some (.int .i64 of) := KE1.cellOf 1 rfl
    have p2_ : x1.cell? ⟨p, 2, none⟩ = some (.int .i64 mk) := KE1.cellOf 2 rfl
    have p3_ : x1.cell? ⟨p, 3, none⟩ = some (.slice B1 m1 d1) := KE1.cellOf 3 rfl
    have p4_ : x1.cell? ⟨p, 4, none⟩ = some (.slice B2 m2 d2) := KE1.cellOf 4 rfl
    have p5_ : x1.cell? ⟨p, 5, none⟩ = some (.slice B3 m3 d3) := KE1.cellOf 5 rfl
    have q0_ : x1.cell? ⟨q, 0, none⟩ = some (.int .i64 tk) := KE1.at1.cellOf 0 rfl
    have q1_ : x1.cell? ⟨q, 1, none⟩ = some (.int .i64 of) := KE1.at1.cellOf 1 rfl
    have q2_ : x1.cell? ⟨q, 2, none⟩ = some (.int .i64 mk) := KE1.at1.cellOf 2 rfl
    have q3_ : x1.cell? ⟨q, 3, none⟩ = some (.slice A1 n1 c1) := KE1.at1.cellOf 3 rfl
    have q4_ : x1.cell? ⟨q, 4, none⟩ = some (.slice A2 n2 c2) := KE1.at1.cellOf 4 rfl
    have q5_ : x1.cell? ⟨q, 5, none⟩ = some (.slice A3 n3 c3) := KE1.at1.cellOf 5 rfl
    replace KE1 := Lib.hid KE1
    clear K
    go_wp2_with fail
    refine (T2.out x1 [Blk p (.cells #[.int .i64 tk, .int .i64 of, .int .i64 mk, .slice B1 m1 d1, .slice B2 m2 d2, .slice B3 m3 d3] 55), Blk q (.cells #[.int .i64 tk, .int .i64 of, .int .i64 mk, .slice A1 n1 c1, .slice A2 n2 c2, .slice A3 n3 c3] 55)] KE1.out (fun w' h => h.tail.tail)).mono ?_
    rintro e x2 ⟨rfl, KE2⟩
    clear p0_ p1_ p2_ p3_ p4_ p5_ q0_ q1_ q2_ q3_ q4_ q5_
    have p0_ : x2.cell? ⟨p, 0, none⟩ = some (.int .i64 tk) := KE2.cellOf 0 rfl
    have p1_ : x2.cell? ⟨p, 1, none⟩ = some (.int .i64 of) := KE2.cellOf 1 rfl
    have p2_ : x2.cell? ⟨p, 2, none⟩ = some (.int .i64 mk) := KE2.cellOf 2 rfl
    have p3_ : x2.cell? ⟨p, 3, none⟩ = some (.slice B1 m1 d1) := KE2.cellOf 3 rfl
    have p4_ : x2.cell? ⟨p, 4, none⟩ = some (.slice B2 m2 d2) := KE2.cellOf 4 rfl
    have p5_ : x2.cell? ⟨p, 5, none⟩ = some (.slice B3 m3 d3) := KE2.cellOf 5 rfl
    have q0_ : x2.cell? ⟨q, 0, none⟩ = some (.int .i64 tk) := KE2.at1.cellOf 0 rfl
    have q1_ : x2.cell? ⟨q, 1, none⟩ = some (.int .i64 of) := KE2.at1.cellOf 1 rfl
    have q2_ : x2.cell? ⟨q, 2, none⟩ = some (.int .i64 mk) := KE2.at1.cellOf 2 rfl
    have q3_ : x2.cell? ⟨q, 3, none⟩ = some (.slice A1 n1 c1) := KE2.at1.cellOf 3 rfl
    have q4_ : x2.cell? ⟨q, 4, none⟩ = some (.slice A2 n2 c2) := KE2.at1.cellOf 4 rfl
    have q5_ : x2.cell? ⟨q, 5, none⟩ = some (.slice A3 n3 c3) := KE2.at1.cellOf 5 rfl
    replace KE2 := Lib.hid KE2
    clear KE1
    go_wp2_with fail
    refine (T3.out x2 [Blk p (.cells #[.int .i64 tk, .int .i64 of, .int .i64 mk, .slice B1 m1 d1, .slice B2 m2 d2, .slice B3 m3 d3] 55), Blk q (.cells #[.int .i64 tk, .int .i64 of, .int .i64 mk, .slice A1 n1 c1, .slice A2 n2 c2, .slice A3 n3 c3] 55)] KE2.out (fun w' h => h.tail.tail)).mono ?_
    rintro e x3 ⟨rfl, KE3⟩
    clear p0_ p1_ p2_ p3_ p4_ p5_ q0_ q1_ q2_ q3_ q4_ q5_
    replace KE3 := Lib.hid KE3
    clear KE2
    go_wp2_with fail
    go_ret
    exact ⟨rfl, KE3.out.tail.tail⟩
  rw [decide_eq_true g5] at T3
  have hr0 : res = true := by rw [← hres]; simp [g3, g4, g5]
  subst hr0
  clear hres g3 g4 g5
  go_enter Try.func28, Try.ntmps28
  go_upto_region 1 with (fail)
  generalize World.alloc _ _ = w1 at K ⊢
  generalize w.heap.size + 1 = p at K ⊢
  generalize w.heap.size = q at K ⊢
  have p0_ : w1.cell? ⟨p, 0, none⟩ = some (.int .i64 tk) := K.out.cellOf 0 rfl
  have p1_ : w1.cell? ⟨p, 1, none⟩ = some (.int .i64 of) := K.out.cellOf 1 rfl
  have p2_ : w1.cell? ⟨p, 2, none⟩ = some (.int .i64 mk) := K.out.cellOf 2 rfl
  have p3_ : w1.cell? ⟨p, 3, none⟩ = some (.slice B1 m1 d1) := K.out.cellOf 3 rfl
  have p4_ : w1.cell? ⟨p, 4, none⟩ = some (.slice B2 m2 d2) := K.out.cellOf 4 rfl
  have p5_ : w1.cell? ⟨p, 5, none⟩ = some (.slice B3 m3 d3) := K.out.cellOf 5 rfl
  have q0_ : w1.cell? ⟨q, 0, none⟩ = some (.int .i64 tk) := K.out.at1.cellOf 0 rfl
  have q1_ : w1.cell? ⟨q, 1, none⟩ = some (.int .i64 of) := K.out.at1.cellOf 1 rfl
  have q2_ : w1.cell? ⟨q, 2, none⟩ = some (.int .i64 mk) := K.out.at1.cellOf 2 rfl
  have q3_ : w1.cell? ⟨q, 3, none⟩ = some (.slice A1 n1 c1) := K.out.at1.cellOf 3 rfl
  have q4_ : w1.cell? ⟨q, 4, none⟩ = some (.slice A2 n2 c2) := K.out.at1.cellOf 4 rfl
  have q5_ : w1.cell? ⟨q, 5, none⟩ = some (.slice A3 n3 c3) := K.out.at1.cellOf 5 rfl
  go_wp2_with fail
  refine (T1.out w1 [Blk p (.cells #[.int .i64 tk, .int .i64 of, .int .i64 mk, .slice B1 m1 d1, .slice B2 m2 d2, .slice B3 m3 d3] 55), Blk q (.cells #[.int .i64 tk, .int .i64 of, .int .i64 mk, .slice A1 n1 c1, .slice A2 n2 c2, .slice A3 n3 c3] 55)] K.out (fun w' h => h.tail.tail)).mono ?_
  rintro e x1 ⟨rfl, KE1⟩
  clear p0_ p1_ p2_ p3_ p4_ p5_ q0_ q1_ q2_ q3_ q4_ q5_
  have p0_ : x1.cell? ⟨p, 0, none⟩ = some (.int .i64 tk) := KE1.cellOf 0 rfl
  have p1_ : x1.cell? ⟨p, 1, none⟩ = some (.int .i64 of) := KE1.cellOf 1 rfl
  have p2_ : x1.cell? ⟨p, 2, none⟩ = some (.int .i64 mk) := KE1.cellOf 2 rfl
  have p3_ : x1.cell? ⟨p, 3, none⟩ = some (.slice B1 m1 d1) := KE1.cellOf 3 rfl
  have p4_ : x1.cell? ⟨p, 4, none⟩ = some (.slice B2 m2 d2) := KE1.cellOf 4 rfl
  have p5_ : x1.cell? ⟨p, 5, none⟩ = some (.slice B3 m3 d3) := KE1.cellOf 5 rfl
  have q0_ : x1.cell? ⟨q, 0, none⟩ = some (.int .i64 tk) := KE1.at1.cellOf 0 rfl
  have q1_ : x1.cell? ⟨q, 1, none⟩ = some (.int .i64 of) := KE1.at1.cellOf 1 rfl
  have q2_ : x1.cell? ⟨q, 2, none⟩ = some (.int .i64 mk) := KE1.at1.cellOf 2 rfl
  have q3_ : x1.cell? ⟨q, 3, none⟩ = some (.slice A1 n1 c1) := KE1.at1.cellOf 3 rfl
  have q4_ : x1.cell? ⟨q, 4, none⟩ = some (.slice A2 n2 c2) := KE1.at1.cellOf 4 rfl
  have q5_ : x1.cell? ⟨q, 5, none⟩ = some (.slice A3 n3 c3) := KE1.at1.cellOf 5 rfl
  replace KE1 := Lib.hid KE1
  clear K
  go_wp2_with fail
  refine (T2.out x1 [Blk p (.cells #[.int .i64 tk, .int .i64 of, .int .i64 mk, .slice B1 m1 d1, .slice B2 m2 d2, .slice B3 m3 d3] 55), Blk q (.cells #[.int .i64 tk, .int .i64 of, .int .i64 mk, .slice A1 n1 c1, .slice A2 n2 c2, .slice A3 n3 c3] 55)] KE1.out (fun w' h => h.tail.tail)).mono ?_
  rintro e x2 ⟨rfl, KE2⟩
  clear p0_ p1_ p2_ p3_ p4_ p5_ q0_ q1_ q2_ q3_ q4_ q5_
  have p0_ : x2.cell? ⟨p, 0, none⟩ = some (.int .i64 tk) := KE2.cellOf 0 rfl
  have p1_ : x2.cell? ⟨p, 1, none⟩ = some (.int .i64 of) := KE2.cellOf 1 rfl
  have p2_ : x2.cell? ⟨p, 2, none⟩ = some (.int .i64 mk) := KE2.cellOf 2 rfl
  have p3_ : x2.cell? ⟨p, 3, none⟩ = some (.slice B1 m1 d1) := KE2.cellOf 3 rfl
  have p4_ : x2.cell? ⟨p, 4, none⟩ = some (.slice B2 m2 d2) := KE2.cellOf 4 rfl
  have p5_ : x2.cell? ⟨p, 5, none⟩ = some (.slice B3 m3 d3) := KE2.cellOf 5 rfl
  have q0_ : x2.cell? ⟨q, 0, none⟩ = some (.int .i64 tk) := KE2.at1.cellOf 0 rfl
  have q1_ : x2.cell? ⟨q, 1, none⟩ = some (.int .i64 of) := KE2.at1.cellOf 1 rfl
  have q2_ : x2.cell? ⟨q, 2, none⟩ = some (.int .i64 mk) := KE2.at1.cellOf 2 rfl
  have q3_ : x2.cell? ⟨q, 3, none⟩ = some (.slice A1 n1 c1) := KE2.at1.cellOf 3 rfl
  have q4_ : x2.cell? ⟨q, 4, none⟩ = some (.slice A2 n2 c2) := KE2.at1.cellOf 4 rfl
  have q5_ : x2.cell? ⟨q, 5, none⟩ = some (.slice A3 n3 c3) := KE2.at1.cellOf 5 rfl
  replace KE2 := Lib.hid KE2
  clear KE1
  go_wp2_with fail
  refine (T3.out x2 [Blk p (.cells #[.int .i64 tk, .int .i64 of, .int .i64 mk, .slice B1 m1 d1, .slice B2 m2 d2, .slice B3 m3 d3] 55), Blk q (.cells #[.int .i64 tk, .int .i64 of, .int .i64 mk, .slice A1 n1 c1, .slice A2 n2 c2, .slice A3 n3 c3] 55)] KE2.out (fun w' h => h.tail.tail)).mono ?_
  rintro e x3 ⟨rfl, KE3⟩
  clear p0_ p1_ p2_ p3_ p4_ p5_ q0_ q1_ q2_ q3_ q4_ q5_
  replace KE3 := Lib.hid KE3
  clear KE2
  go_wp2_with fail
  go_ret
  exact ⟨rfl, KE3.out.tail.tail⟩
end Go.Proofs.Ytjdkpogkhecijaa

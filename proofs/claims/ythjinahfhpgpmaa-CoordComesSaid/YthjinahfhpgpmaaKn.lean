import Derived.Test.YthjinahfhpgpmaaPe
import Derived.Test.YthjinahfhpgpmaaPf
import Derived.Test.YthjinahfhpgpmaaPg
import Derived.Test.YthjinahfhpgpmaaPs
import Derived.Test.YthjinahfhpgpmaaProg
import Derived.Test.YthjinahfhpgpmaaLs
import Derived.Outline
import Derived.StillTailTactics
import Derived.Deep.DeepCutAuto
import Derived.Deep.CutBlock
import Derived.Deep.LoopGhost
import Derived.Deep.QuietTactic
import Derived.BigQuiet
import Derived.Deep.RegionHeld3
import Derived.Deep.RegionLaw
set_option linter.unusedVariables false
set_option linter.unusedSimpArgs false
namespace Go.Proofs.Ythjinahfhpgpmaa
open Go.RowKit
/-- leathelp.Place. -/
theorem place9 (n m : Int) (w : World) (hm : 0 < m) (hm2 : m ≤ 1000000) : Calls Try.prog 9 #[.int .i64 n, .int .i64 m] w fun e w' => e = .returned (.int .i64 (n % m)) ∧ w = w' := by
  have h1 := Int.tmod_lt_of_pos n hm
  have h2 := Int.lt_tmod_of_pos n hm
  have hz : m ≠ 0 := by omega
  have hz0 : (m == 0) = false := by rw [beq_eq_false_iff_ne]; exact hz
  rcases Int.lt_or_le (n.tmod m) 0 with h | h
  · have e1 := Lib.hid (tmod_up n m hm h)
    go_enter Try.func9, Try.ntmps9
    go_wp2_with fail
    go_ret
    rw [← e1.out]
    exact ⟨rfl, rfl⟩
  · have e1 := Lib.hid (tmod_in n m hm h)
    go_enter Try.func9, Try.ntmps9
    go_wp2_with fail
    go_ret
    rw [← e1.out]
    exact ⟨rfl, rfl⟩
def K0 : Co := Co.new [4, 5] [5] 3 9
def K1 : Co := (K0.begin 1 0 0).1
def K2 : Co := (K1.take (6, 1, 0, 4)).1
def K3 : Co := K2.tick.1
def K4 : Co := (K3.take (6, 1, 0, 5)).1
def K5 : Co := K4.tick.1
def K6 : Co := K5.tick.1
def K7 : Co := K6.tick.1
def K8 : Co := (K7.take (2, 1, 1, 4)).1
def K9 : Co := (K8.take (2, 1, 1, 5)).1
def K10 : Co := (K9.store 1 true).1
def K11 : Co := (K10.take (4, 1, 1, 5)).1
theorem ctl_cells {w : World} {g off n c : Nat} {xs : List Ctl} {k : Nat} {x : Ctl} (H : RdL ECtl w (.slice (some ⟨g, off, none⟩) n c) xs) (hx : xs[k]? = some x) :
    w.cell? ⟨g, off + k * 4, none⟩ = some (.int .i64 x.1) ∧ w.cell? ⟨g, off + k * 4 + 1, none⟩ = some (.int .u64 x.2.1) ∧ w.cell? ⟨g, off + k * 4 + 2, none⟩ = some (.int .u64 x.2.2.1) ∧ w.cell? ⟨g, off + k * 4 + 3, none⟩ = some (.int .i64 x.2.2.2) :=
  ⟨H.cell hx 0 rfl, H.cell hx 1 rfl, H.cell hx 2 rfl, H.cell hx 3 rfl⟩
set_option maxRecDepth 100000 in
set_option maxHeartbeats 4000000 in
theorem known8 (w w0 : World) (R : List HP) (H : Hs w0 w R) : Calls Try.prog 8 #[] w fun e w' => e = .returned (.bool true) ∧ Hs w0 w' R := by
  have hsz : ∀ (w : World) (o : Obj), (w.alloc o).heap.size = w.heap.size + 1 := fun w o => Array.size_push ..
  have H1 := (H.ls_lit (Enc.num .i64) 3 [4, 5] _ rfl 2 rfl (by omega)).ls_lit (Enc.num .i64) 3 [5] _ rfl 1 rfl (by omega)
  simp only [hsz] at H1
  clear hsz
  replace H1 := Lib.hid H1
  go_enter Try.func8, Try.ntmps8
  go_wp2_with fail
  refine (new10 _ _ [4, 5] [5] 3 9 _ w0 _ H1.out (fun w' h => h.at1.ls_rd) (fun w' h => h.ls_rd) (by decide) (by decide)).mono ?_
  rw [show Co.new [4, 5] [5] 3 9 = K0 from rfl]
  rintro e w1 ⟨p, v, rfl, H2⟩
  have K := Lib.hid H2.at1.tail.at1.tail
  clear H H1 H2
  go_wp2_with fail
  refine (begin11 p v K0 _ w0 _ K.out 1 0 0 (by decide)).mono ?_
  rw [show (K0.begin 1 0 0).2 = [((5 : Int), 1, 0, 4), (5, 1, 0, 5)] from by rfl, show (K0.begin 1 0 0).1 = K1 from rfl]
  rintro e w2 ⟨A1, c1, rfl, H2⟩
  replace K := Lib.hid H2.at1
  clear H2
  go_wp2_with fail
  refine (take14 p v K1 _ w0 _ K.out 6 1 0 4 (by decide)).mono ?_
  rw [show (K1.take (6, 1, 0, 4)).1 = K2 from rfl, show (K1.take (6, 1, 0, 4)).2 = 0 from by rfl]
  rintro e w3 ⟨rfl, H2⟩
  replace K := Lib.hid H2
  clear H2
  go_wp2_with fail
  refine (tick12 p v K2 _ w0 _ K.out (by decide) (by decide) (by decide) (by decide) (by decide) (by decide) (by decide)).mono ?_
  rw [show (K2.tick).2 = [((5 : Int), 1, 0, 5)] from by rfl, show K2.tick.1 = K3 from rfl]
  rintro e w4 ⟨A2, c2, rfl, H2⟩
  replace K := Lib.hid H2.at1
  clear H2
  go_wp2_with fail
  refine (take14 p v K3 _ w0 _ K.out 6 1 0 5 (by decide)).mono ?_
  rw [show (K3.take (6, 1, 0, 5)).1 = K4 from rfl, show (K3.take (6, 1, 0, 5)).2 = 0 from by rfl]
  rintro e w5 ⟨rfl, H2⟩
  replace K := Lib.hid H2
  clear H2
  go_wp2_with fail
  refine (tick12 p v K4 _ w0 _ K.out (by decide) (by decide) (by decide) (by decide) (by decide) (by decide) (by decide)).mono ?_
  rw [show (K4.tick).2 = [] from by rfl, show K4.tick.1 = K5 from rfl]
  rintro e w6 ⟨A3, c3, rfl, H2⟩
  replace K := Lib.hid H2.tail
  clear H2
  go_wp2_with fail
  refine (tick12 p v K5 _ w0 _ K.out (by decide) (by decide) (by decide) (by decide) (by decide) (by decide) (by decide)).mono ?_
  rw [show (K5.tick).2 = [] from by rfl, show K5.tick.1 = K6 from rfl]
  rintro e w7 ⟨A4, c4, rfl, H2⟩
  replace K := Lib.hid H2.tail
  clear H2
  go_wp2_with fail
  refine (tick12 p v K6 _ w0 _ K.out (by decide) (by decide) (by decide) (by decide) (by decide) (by decide) (by decide)).mono ?_
  rw [show (K6.tick).2 = [((1 : Int), 1, 1, 4), (1, 1, 1, 5)] from by rfl, show K6.tick.1 = K7 from rfl]
  rintro e w8 ⟨A5, c5, rfl, H2⟩
  replace K := Lib.hid H2.at1
  clear H2
  go_wp2_with fail
  refine (take14 p v K7 _ w0 _ K.out 2 1 1 4 (by decide)).mono ?_
  rw [show (K7.take (2, 1, 1, 4)).1 = K8 from rfl, show (K7.take (2, 1, 1, 4)).2 = 0 from by rfl]
  rintro e w9 ⟨rfl, H2⟩
  replace K := Lib.hid H2
  clear H2
  go_wp2_with fail
  refine (take14 p v K8 _ w0 _ K.out 2 1 1 5 (by decide)).mono ?_
  rw [show (K8.take (2, 1, 1, 5)).1 = K9 from rfl, show (K8.take (2, 1, 1, 5)).2 = 1 from by rfl]
  rintro e w10 ⟨rfl, H2⟩
  replace K := Lib.hid H2
  clear H2
  go_wp2_with fail
  refine (stored15 p v K9 _ w0 _ K.out 1 true (by decide)).mono ?_
  rw [show (K9.store 1 true).2 = [((3 : Int), 1, 1, 5)] from by rfl, show (K9.store 1 true).1 = K10 from rfl]
  rintro e w11 ⟨A6, c6, rfl, H2⟩
  replace K := Lib.hid H2.at1
  clear H2
  go_wp2_with fail
  refine (settled19 p v K10 _ w0 _ K.out (by decide) (by decide)).mono ?_
  rw [show K10.settled = false from by rfl]
  rintro e w12 ⟨rfl, H2⟩
  replace K := Lib.hid H2
  clear H2
  go_wp2_with fail
  refine (take14 p v K10 _ w0 _ K.out 4 1 1 5 (by decide)).mono ?_
  rw [show (K10.take (4, 1, 1, 5)).1 = K11 from rfl, show (K10.take (4, 1, 1, 5)).2 = 0 from by rfl]
  rintro e w13 ⟨rfl, H2⟩
  replace K := Lib.hid H2
  clear H2
  simp only [List.length_cons, List.length_nil, Nat.zero_add] at K ⊢
  obtain ⟨g1, o1, rfl⟩ := K.out.at4.ls_rd.some_ (by decide)
  obtain ⟨g2, o2, rfl⟩ := K.out.at3.ls_rd.some_ (by decide)
  obtain ⟨g5, o5, rfl⟩ := K.out.at2.ls_rd.some_ (by decide)
  obtain ⟨g6, o6, rfl⟩ := K.out.at1.ls_rd.some_ (by decide)
  obtain ⟨a0, a1, a2, a3⟩ := ctl_cells K.out.at4.ls_rd (k := 0) rfl
  obtain ⟨_, _, _, b3⟩ := ctl_cells K.out.at3.ls_rd (k := 0) rfl
  obtain ⟨d0, d1, d2, d3⟩ := ctl_cells K.out.at2.ls_rd (k := 1) rfl
  obtain ⟨e0, e1, e2, e3⟩ := ctl_cells K.out.at1.ls_rd (k := 0) rfl
  simp only [Nat.zero_mul, Nat.add_zero, Nat.one_mul] at a0 a1 a2 a3 b3 d0 d1 d2 d3 e0 e1 e2 e3
  go_wp2_with fail
  refine (settled19 p v K11 _ w0 _ K.out (by decide) (by decide)).mono ?_
  rw [show K11.settled = true from by rfl]
  rintro e w14 ⟨rfl, H2⟩
  replace K := Lib.hid H2
  clear H2 a0 a1 a2 a3 b3 d0 d1 d2 d3 e0 e1 e2 e3
  go_wp2_with fail
  refine (durable13 p v K11 _ w0 _ K.out).mono ?_
  rw [show K11.durable = 1 from by rfl]
  rintro e w15 ⟨rfl, rfl⟩
  go_wp2_with fail
  refine (under17 p v K11 _ w0 _ K.out).mono ?_
  rw [show K11.under = 0 from by rfl]
  rintro e w15 ⟨rfl, rfl⟩
  go_wp2_with fail
  go_ret
  exact ⟨rfl, K.out.tail.tail.tail.tail.tail⟩
end Go.Proofs.Ythjinahfhpgpmaa

import Derived.Test.YtjdkpogkhecijaaUa
import Derived.Test.YtjdkpogkhecijaaFa
import Derived.IntWalk
import Derived.Test.YtjdkpogkhecijaaProg
import Derived.Test.YtjdkpogkhecijaaLs
import Derived.Outline
import Derived.StillTailTactics
import Derived.Deep.DeepCutAuto
import Derived.Deep.CutBlock
import Derived.Deep.LoopGhost
import Derived.Deep.QuietTactic
import Derived.BigQuiet
import Derived.Deep.RegionHeld3
import Derived.Deep.RegionLaw
set_option linter.unusedVariables false
set_option linter.unusedSimpArgs false
namespace Go.Proofs.Ytjdkpogkhecijaa
open Go.RowKit
/-! ### the parts' elements -/
set_option maxRecDepth 100000 in
set_option maxHeartbeats 800000 in
theorem mark51 (A : Option Addr) (n c : Nat) (bs : List Int) (x : Int) (w w0 : World) (R : List HP) (H : Hs w0 w (Ls U8 5 (.slice A n c) bs :: R)) (hn : bs.length = n) (hl : n ≤ 1000000000) :
    Calls Try.prog 51 #[.slice A n c, .int .i64 x] w (BB w0 R (n + 8) (bs ++ put 8 (u64 x))) := by
  have hx1 : IntKind.u64.wrap x = u64 x := by unfold u64; rw [IntKind.wrap_u64]
  have T := Lib.hid (number40N n (.slice A n c) bs hn (u64 x) (u64_lt x) 8 (by omega) 8 rfl w w0 R H hl)
  clear H
  go_enter Try.func51, Try.ntmps51
  go_wp2_with fail
  refine T.out.mono ?_
  rintro e w1 ⟨A1, c1, rfl, h1, K1⟩
  replace K1 := Lib.hid K1
  replace h1 := Lib.hid h1
  clear T
  go_wp2_with fail
  go_ret
  exact ⟨A1, c1, rfl, h1.out, K1.out⟩
abbrev Pn4 : Type := Int × (Int × Int) × Int
def pnc (p : Pn4) : Array Value := #[.int .i64 p.1, .int .i64 p.2.1.1, .int .i64 p.2.1.2, .int .i64 p.2.2]
def paneB (p : Pn4) : List Int := put 8 (u64 p.1) ++ (put 8 (u64 p.2.1.1) ++ (put 8 (u64 p.2.1.2) ++ put 8 (u64 p.2.2)))
theorem paneB_len (p : Pn4) : (paneB p).length = 32 := by unfold paneB; simp only [List.length_append, put_len]
theorem paneB_byt (p : Pn4) : Byt (paneB p) := Byt.append (put_byt _ _) (Byt.append (put_byt _ _) (Byt.append (put_byt _ _) (put_byt _ _)))
def paneL : Nat → Pn4 → List Int
  | 0, _ => []
  | 1, p => put 8 (u64 p.1)
  | 2, p => put 8 (u64 p.1) ++ put 8 (u64 p.2.1.1)
  | 3, p => put 8 (u64 p.1) ++ (put 8 (u64 p.2.1.1) ++ put 8 (u64 p.2.1.2))
  | _, p => paneB p
set_option maxRecDepth 100000 in
set_option maxHeartbeats 1600000 in
theorem pane53 (A : Option Addr) (n c : Nat) (bs : List Int) (x : Pn4) (w w0 : World) (R : List HP) (H : Hs w0 w (Ls U8 5 (.slice A n c) bs :: R)) (hn : bs.length = n) (hl : n ≤ 900000000) :
    Calls Try.prog 53 #[.slice A n c, .agg (pnc x)] w (BB w0 R (n + 32) (bs ++ paneB x)) := by
  obtain ⟨k, ⟨f, t⟩, a⟩ := x
  show Calls Try.prog 53 #[.slice A n c, .agg #[.int .i64 k, .int .i64 f, .int .i64 t, .int .i64 a]] w _
  have i0 : ∀ w, (Instr.index 107 (.agg #[.int .i64 k, .int .i64 f, .int .i64 t, .int .i64 a]) (.int .i64 0)).run Try.prog w = .ok (.int .i64 k) w := fun _ => by kernel_rfl
  have i1 : ∀ w, (Instr.index 107 (.agg #[.int .i64 k, .int .i64 f, .int .i64 t, .int .i64 a]) (.int .i64 1)).run Try.prog w = .ok (.int .i64 f) w := fun _ => by kernel_rfl
  have i2 : ∀ w, (Instr.index 107 (.agg #[.int .i64 k, .int .i64 f, .int .i64 t, .int .i64 a]) (.int .i64 2)).run Try.prog w = .ok (.int .i64 t) w := fun _ => by kernel_rfl
  have i3 : ∀ w, (Instr.index 107 (.agg #[.int .i64 k, .int .i64 f, .int .i64 t, .int .i64 a]) (.int .i64 3)).run Try.prog w = .ok (.int .i64 a) w := fun _ => by kernel_rfl
  have K := Lib.hid (H.alloc (.cells #[.int .i64 k, .int .i64 f, .int .i64 t, .int .i64 a] 106)).at1
  have hx : ∀ x, IntKind.u64.wrap x = u64 x := fun x => by unfold u64; rw [IntKind.wrap_u64]
  have hx1 := hx k
  have hx2 := hx f
  have hx3 := hx t
  have hx4 := hx a
  have hn0 := Lib.hid hn
  clear H hn hx
  go_enter Try.func53, Try.ntmps53
  go_upto_region 1 with (fail)
  generalize World.alloc _ _ = w1 at K ⊢
  generalize w.heap.size = p at K ⊢
  have p0 : w1.cell? ⟨p, 0, none⟩ = some (.int .i64 k) := K.out.at1.cellOf 0 rfl
  have p1 : w1.cell? ⟨p, 1, none⟩ = some (.int .i64 f) := K.out.at1.cellOf 1 rfl
  have p2 : w1.cell? ⟨p, 2, none⟩ = some (.int .i64 t) := K.out.at1.cellOf 2 rfl
  have p3 : w1.cell? ⟨p, 3, none⟩ = some (.int .i64 a) := K.out.at1.cellOf 3 rfl
  have K0 := Lib.hid K.out.at1.tail
  clear K
  go_wp2_with fail
  clear p0 p1 p2 p3
  go_loopg [0, 6, 18] 4 (fun g lv xv iv wr => ∃ (i : Nat) (A : Option Addr) (m c : Nat) (cur : List Int), g + i = 4 ∧ lv = .slice A m c ∧ iv = .int .i64 i ∧ m = n + 8 * i ∧ Hid (cur.length = m) ∧ Hid (cur = bs ++ paneL i (k, (f, t), a)) ∧ Hid (Hs w0 wr (Ls U8 5 (.slice A m c) cur :: R)))
  case atStart => exact ⟨0, A, n, c, bs, rfl, rfl, rfl, rfl, hn0, Lib.hid (by show bs = bs ++ []; rw [List.append_nil]), K0⟩
  case round =>
    clear K0
    obtain ⟨i, A3, m, c3, cur, hg, rfl, rfl, hm, hcm, hcur, K⟩ := hrel
    have hi4 : i ≤ 4 := by omega
    rcases (by omega : i = 0 ∨ i = 1 ∨ i = 2 ∨ i = 3 ∨ i = 4) with rfl | rfl | rfl | rfl | rfl
    · have hm9 : m ≤ 1000000000 := by omega
      have hm10 := Lib.hid (show m + 8 = n + 8 * (0 + 1) by omega)
      clear hm
      go_wp2_with fail
      refine (number40N m (.slice A3 m c3) cur hcm.out (u64 k) (u64_lt k) 8 (by omega) 8 rfl wr w0 R K.out hm9).mono ?_
      rintro e w5 ⟨A5, c5, rfl, h5, K5⟩
      have hst : Hid (cur ++ put 8 (u64 k) = bs ++ paneL (0 + 1) (k, (f, t), a)) := by show _ = _; rw [hcur.out]; unfold paneL; first | simp only [paneB, List.append_assoc, List.append_nil, List.nil_append] | rfl
      replace K5 := Lib.hid K5
      replace h5 := Lib.hid h5
      clear K
      go_wp2_with fail
      go_roundg 3
      case measure => omega
      case rel => exact ⟨0 + 1, A5, m + 8, c5, _, by omega, rfl, by go_num, hm10.out, h5, hst, K5⟩
    · have hm9 : m ≤ 1000000000 := by omega
      have hm10 := Lib.hid (show m + 8 = n + 8 * (1 + 1) by omega)
      clear hm
      go_wp2_with fail
      refine (number40N m (.slice A3 m c3) cur hcm.out (u64 f) (u64_lt f) 8 (by omega) 8 rfl wr w0 R K.out hm9).mono ?_
      rintro e w5 ⟨A5, c5, rfl, h5, K5⟩
      have hst : Hid (cur ++ put 8 (u64 f) = bs ++ paneL (1 + 1) (k, (f, t), a)) := by show _ = _; rw [hcur.out]; unfold paneL; first | simp only [paneB, List.append_assoc, List.append_nil, List.nil_append] | rfl
      replace K5 := Lib.hid K5
      replace h5 := Lib.hid h5
      clear K
      go_wp2_with fail
      go_roundg 2
      case measure => omega
      case rel => exact ⟨1 + 1, A5, m + 8, c5, _, by omega, rfl, by go_num, hm10.out, h5, hst, K5⟩
    · have hm9 : m ≤ 1000000000 := by omega
      have hm10 := Lib.hid (show m + 8 = n + 8 * (2 + 1) by omega)
      clear hm
      go_wp2_with fail
      refine (number40N m (.slice A3 m c3) cur hcm.out (u64 t) (u64_lt t) 8 (by omega) 8 rfl wr w0 R K.out hm9).mono ?_
      rintro e w5 ⟨A5, c5, rfl, h5, K5⟩
      have hst : Hid (cur ++ put 8 (u64 t) = bs ++ paneL (2 + 1) (k, (f, t), a)) := by show _ = _; rw [hcur.out]; unfold paneL; first | simp only [paneB, List.append_assoc, List.append_nil, List.nil_append] | rfl
      replace K5 := Lib.hid K5
      replace h5 := Lib.hid h5
      clear K
      go_wp2_with fail
      go_roundg 1
      case measure => omega
      case rel => exact ⟨2 + 1, A5, m + 8, c5, _, by omega, rfl, by go_num, hm10.out, h5, hst, K5⟩
    · have hm9 : m ≤ 1000000000 := by omega
      have hm10 := Lib.hid (show m + 8 = n + 8 * (3 + 1) by omega)
      clear hm
      go_wp2_with fail
      refine (number40N m (.slice A3 m c3) cur hcm.out (u64 a) (u64_lt a) 8 (by omega) 8 rfl wr w0 R K.out hm9).mono ?_
      rintro e w5 ⟨A5, c5, rfl, h5, K5⟩
      have hst : Hid (cur ++ put 8 (u64 a) = bs ++ paneL (3 + 1) (k, (f, t), a)) := by show _ = _; rw [hcur.out]; unfold paneL; first | simp only [paneB, List.append_assoc, List.append_nil, List.nil_append] | rfl
      replace K5 := Lib.hid K5
      replace h5 := Lib.hid h5
      clear K
      go_wp2_with fail
      go_roundg 0
      case measure => omega
      case rel => exact ⟨3 + 1, A5, m + 8, c5, _, by omega, rfl, by go_num, hm10.out, h5, hst, K5⟩
    · go_wp2_with fail
      go_ret
      have e4 : paneL 4 (k, (f, t), a) = paneB (k, (f, t), a) := rfl
      subst hm
      refine ⟨A3, c3, rfl, ?_, ?_⟩
      · rw [← e4, ← hcur.out, hcm.out]
      · rw [← e4, ← hcur.out, show n + 32 = n + 8 * 4 by omega]; exact K.out
abbrev Ot : Type := Int × Fr
def otc (o : Ot) : Array Value := #[.int .i64 o.1] ++ frc o.2
def badO (o : Ot) : Bool := decide (o.1 < 0) || (decide (65535 < o.1) || !decide (Right o.2))
def outB (o : Ot) : List Int := put 2 o.1 ++ frb o.2
set_option maxRecDepth 100000 in
set_option maxHeartbeats 1600000 in
theorem bad48 (ch : Int) (f : Fr) (w w0 : World) (R : List HP) (H : Hs w0 w R) :
    Calls Try.prog 48 #[.agg (otc (ch, f))] w fun e w' => e = .returned (.bool (badO (ch, f))) ∧ Hs w0 w' R := by
  have T := Lib.hid (fun w R (H : Hs w0 w R) => right44 f w w0 R H)
  obtain ⟨k, ⟨r1, r2, r3⟩, m, n, o⟩ := f
  show Calls Try.prog 48 #[.agg #[.int .i64 ch, .int .i64 k, .int .i64 r1, .int .i64 r2, .int .i64 r3, .int .i64 m, .int .u64 n, .bool o]] w _
  have K := Lib.hid (H.alloc (.cells #[.int .i64 ch, .int .i64 k, .int .i64 r1, .int .i64 r2, .int .i64 r3, .int .i64 m, .int .u64 n, .bool o] 97))
  obtain ⟨q, hq⟩ : ∃ q, decide (Right (k, (r1, r2, r3), m, n, o)) = q := ⟨_, rfl⟩
  obtain ⟨B, hB⟩ : ∃ B, badO (ch, (k, (r1, r2, r3), m, n, o)) = B := ⟨_, rfl⟩
  rw [hB]
  unfold badO at hB
  dsimp only at hB
  rw [hq] at T hB
  replace hB := Lib.hid hB
  clear H hq
  go_enter Try.func48, Try.ntmps48
  go_upto_region 1 with (fail)
  generalize World.alloc _ _ = w1 at K ⊢
  generalize w.heap.size = p at K ⊢
  have p0 : w1.cell? ⟨p, 0, none⟩ = some (.int .i64 ch) := K.out.cellOf 0 rfl
  have p1 : w1.cell? ⟨p, 1, none⟩ = some (.int .i64 k) := K.out.cellOf 1 rfl
  have p2 : w1.cell? ⟨p, 2, none⟩ = some (.int .i64 r1) := K.out.cellOf 2 rfl
  have p3 : w1.cell? ⟨p, 3, none⟩ = some (.int .i64 r2) := K.out.cellOf 3 rfl
  have p4 : w1.cell? ⟨p, 4, none⟩ = some (.int .i64 r3) := K.out.cellOf 4 rfl
  have p5 : w1.cell? ⟨p, 5, none⟩ = some (.int .i64 m) := K.out.cellOf 5 rfl
  have p6 : w1.cell? ⟨p, 6, none⟩ = some (.int .u64 n) := K.out.cellOf 6 rfl
  have p7 : w1.cell? ⟨p, 7, none⟩ = some (.bool o) := K.out.cellOf 7 rfl
  by_cases hc0 : ch < 0
  · have e1 : decide (ch < 0) = true := decide_eq_true hc0
    have hb2 := hB.out
    rw [e1] at hb2
    subst hb2
    clear hc0 hB
    go_wp2_with fail
    go_ret
    exact ⟨rfl, K.out.tail⟩
  have e1 : decide (ch < 0) = false := decide_eq_false hc0
  by_cases hc1 : 65535 < ch
  · have e2 : decide (65535 < ch) = true := decide_eq_true hc1
    have hb2 := hB.out
    rw [e1, e2] at hb2
    subst hb2
    clear hc0 hc1 hB
    go_wp2_with fail
    go_ret
    exact ⟨rfl, K.out.tail⟩
  have e2 : decide (65535 < ch) = false := decide_eq_false hc1
  have hb2 := hB.out
  rw [e1, e2] at hb2
  simp only [Bool.false_or] at hb2
  subst hb2
  clear hc0 hc1 hB
  go_wp2_with fail
  refine (T.out w1 _ K.out).mono ?_
  rintro e w2 ⟨rfl, K2⟩
  replace K2 := Lib.hid K2
  clear K
  go_wp2_with fail
  go_ret
  exact ⟨by simp, K2.out.tail⟩
set_option maxRecDepth 100000 in
set_option maxHeartbeats 1600000 in
theorem out55 (A : Option Addr) (n c : Nat) (bs : List Int) (ch : Int) (f : Fr) (hch : 0 ≤ ch ∧ ch ≤ 65535) (hf : U64 f.2.2.2.1) (w w0 : World) (R : List HP) (H : Hs w0 w (Ls U8 5 (.slice A n c) bs :: R)) (hn : bs.length = n) (hl : n ≤ 400000000) :
    Calls Try.prog 55 #[.slice A n c, .agg (otc (ch, f))] w (BB w0 R (bs ++ outB (ch, f)).length (bs ++ outB (ch, f))) := by
  have T := Lib.hid (fun v bs w R (H : Hs w0 w (Ls U8 5 v bs :: R)) (hl : bs.length ≤ 500000000) => frame45 v bs f hf w w0 R H hl)
  obtain ⟨FB, hFB⟩ : ∃ FB, frb f = FB := ⟨_, rfl⟩
  unfold outB
  dsimp only
  rw [hFB] at T ⊢
  have hst : Hid ((bs ++ put 2 ch) ++ FB = bs ++ (put 2 ch ++ FB)) := List.append_assoc ..
  obtain ⟨L, hL⟩ : ∃ L, bs ++ (put 2 ch ++ FB) = L := ⟨_, rfl⟩
  rw [hL] at hst ⊢
  obtain ⟨k, ⟨r1, r2, r3⟩, m, nn, o⟩ := f
  clear hL hFB hf
  show Calls Try.prog 55 #[.slice A n c, .agg #[.int .i64 ch, .int .i64 k, .int .i64 r1, .int .i64 r2, .int .i64 r3, .int .i64 m, .int .u64 nn, .bool o]] w _
  have T2 : Hid (∀ v bs w R, Hs w0 w (Ls U8 5 v bs :: R) → bs.length ≤ 500000000 → Calls Try.prog 45 #[v, .agg #[.int .i64 k, .int .i64 r1, .int .i64 r2, .int .i64 r3, .int .i64 m, .int .u64 nn, .bool o]] w fun e w' => ∃ A c N2, e = .returned (.slice A N2 c) ∧ (bs ++ FB).length = N2 ∧ Hs w0 w' (Ls U8 5 (.slice A N2 c) (bs ++ FB) :: R)) := fun v bs w R h hl => (T.out v bs w R h hl).mono (by rintro e w' ⟨A, c, rfl, K⟩; exact ⟨A, c, _, rfl, rfl, K⟩)
  have KQ := Lib.hid (H.alloc (.cells #[.int .i64 ch, .int .i64 k, .int .i64 r1, .int .i64 r2, .int .i64 r3, .int .i64 m, .int .u64 nn, .bool o] 97)).at1
  have hx : IntKind.u64.wrap ch = ch := by rw [IntKind.wrap_u64]; omega
  have hn0 := Lib.hid hn
  have hc0 : Hid (0 ≤ ch ∧ ch < 18446744073709551616) := by show _ ∧ _; omega
  have hb0 : Hid (n ≤ 1000000000) := by show _ ≤ _; omega
  have hb1 : Hid (∀ x : List Int, x.length = n + 2 → x.length ≤ 500000000) := fun x h => by omega
  have c2_ : Hid (((2 : Nat) : Int) = 2) := rfl
  have h2 : Hid (2 ≤ 8) := by show _ ≤ _; omega
  clear H hn hch T
  go_enter Try.func55, Try.ntmps55
  go_upto_region 1 with (fail)
  generalize World.alloc _ _ = w1 at KQ ⊢
  generalize w.heap.size = p at KQ ⊢
  have SS : Hid (∀ X w', Hs w0 w' (X :: Blk p (.cells #[.int .i64 ch, .int .i64 k, .int .i64 r1, .int .i64 r2, .int .i64 r3, .int .i64 m, .int .u64 nn, .bool o] 97) :: R) → w'.cell? ⟨p, 0, none⟩ = some (.int .i64 ch) ∧ w'.cell? ⟨p, 1, none⟩ = some (.int .i64 k) ∧ w'.cell? ⟨p, 2, none⟩ = some (.int .i64 r1) ∧ w'.cell? ⟨p, 3, none⟩ = some (.int .i64 r2) ∧ w'.cell? ⟨p, 4, none⟩ = some (.int .i64 r3) ∧ w'.cell? ⟨p, 5, none⟩ = some (.int .i64 m) ∧ w'.cell? ⟨p, 6, none⟩ = some (.int .u64 nn) ∧ w'.cell? ⟨p, 7, none⟩ = some (.bool o)) := fun X w' h => ⟨h.at1.cellOf 0 rfl, h.at1.cellOf 1 rfl, h.at1.cellOf 2 rfl, h.at1.cellOf 3 rfl, h.at1.cellOf 4 rfl, h.at1.cellOf 5 rfl, h.at1.cellOf 6 rfl, h.at1.cellOf 7 rfl⟩
  go_region_held3 (fun w' => w'.cell? ⟨p, 0, none⟩ = some (.int .i64 ch) ∧ w'.cell? ⟨p, 1, none⟩ = some (.int .i64 k) ∧ w'.cell? ⟨p, 2, none⟩ = some (.int .i64 r1) ∧ w'.cell? ⟨p, 3, none⟩ = some (.int .i64 r2) ∧ w'.cell? ⟨p, 4, none⟩ = some (.int .i64 r3) ∧ w'.cell? ⟨p, 5, none⟩ = some (.int .i64 m) ∧ w'.cell? ⟨p, 6, none⟩ = some (.int .u64 nn) ∧ w'.cell? ⟨p, 7, none⟩ = some (.bool o))
    (first | with_reducible exact SS.out _ _ KQ.out.drew | with_reducible exact SS.out _ _ K_a | with_reducible exact SS.out _ _ K_b)
    (first
      | (go_at_call 40; (with_reducible refine (number40N n (.slice A n c) bs hn0.out ch hc0.out 2 h2.out 2 c2_ _ w0 _ KQ.out.drew hb0.out).mono ?_); rintro e w_a ⟨A_a, c_a, rfl, h_a, K_a⟩)
      | (go_at_call 45; (with_reducible refine (T2.out (.slice A_a (n + 2) c_a) (bs ++ put 2 ch) _ _ K_a (hb1.out _ h_a)).mono ?_); rintro e w_b ⟨A_b, c_b, N_b, rfl, h_b, K_b⟩))
  have KF := Lib.hid K_b
  have hz := Lib.hid h_b
  clear K_a K_b h_a h_b
  go_wp2_with fail
  go_ret
  rw [hst.out] at KF hz
  have hz2 := hz.out
  subst hz2
  exact ⟨A_b, c_b, rfl, rfl, KF.out.at1.tail⟩
theorem outB_len (x : Ot) : (outB x).length ≤ 27 := by
  unfold outB frb
  rw [List.length_append, List.length_append, put_len, put_len]
  split
  · rw [List.length_append, List.length_append, put_len, put_len, put_len]; omega
  · split
    · rw [put_len]; omega
    · rw [List.length_append, put_len, put_len]; omega
theorem out55N (A : Option Addr) (n c : Nat) (bs : List Int) (ch : Int) (f : Fr) (hch : 0 ≤ ch ∧ ch ≤ 65535) (hf : U64 f.2.2.2.1) (w w0 : World) (R : List HP) (H : Hs w0 w (Ls U8 5 (.slice A n c) bs :: R)) (hn : bs.length = n) (hl : n ≤ 400000000) :
    Calls Try.prog 55 #[.slice A n c, .agg (otc (ch, f))] w (BB w0 R (n + (outB (ch, f)).length) (bs ++ outB (ch, f))) := by
  have T := out55 A n c bs ch f hch hf w w0 R H hn hl
  rw [show (bs ++ outB (ch, f)).length = n + (outB (ch, f)).length by rw [List.length_append, hn]] at T
  exact T
end Go.Proofs.Ytjdkpogkhecijaa

import Derived.Test.YtjdkpogkhecijaaUd
import Derived.IntWalk
import Derived.Test.YtjdkpogkhecijaaUa
import Derived.Test.YtjdkpogkhecijaaProg
import Derived.Test.YtjdkpogkhecijaaLs
import Derived.Outline
import Derived.StillTailTactics
import Derived.Deep.DeepCutAuto
import Derived.Deep.CutBlock
import Derived.Deep.LoopGhost
import Derived.Deep.QuietTactic
import Derived.BigQuiet
import Derived.Deep.RegionHeld3
import Derived.Deep.RegionLaw
set_option linter.unusedVariables false
set_option linter.unusedSimpArgs false
namespace Go.Proofs.Ytjdkpogkhecijaa
open Go.RowKit
def markB (x : Int) : List Int := put 8 (u64 x)
theorem markB_len (x : Int) : (markB x).length = 8 := put_len ..
theorem markB_byt (x : Int) : Byt (markB x) := put_byt _ _
set_option maxRecDepth 100000 in
set_option maxHeartbeats 1600000 in
theorem list50 (A : Option Addr) (n c : Nat) (bs : List Int) (lv : Value) (l : List (Int)) (w w0 : World) (R : List HP) (H : Hs w0 w (Ls U8 5 (.slice A n c) bs :: R)) (hn : bs.length = n) (hr : ∀ w', Hs w0 w' R → RdL (Enc.num .i64) w' lv l) (hl : l.length ≤ 65535) (hb : n ≤ 1000000)
    (hM : ∀ x ∈ l, True) :
    Calls Try.prog 50 #[.slice A n c, lv, .func (.func 51) #[] #[]] w (BB w0 R (bs ++ (put 2 (l.length : Int) ++ l.flatMap markB)).length (bs ++ (put 2 (l.length : Int) ++ l.flatMap markB))) := by
  obtain ⟨Al, cl, hv⟩ := (hr w H.tail).form
  subst hv
  obtain ⟨N, hN⟩ : ∃ N, l.length = N := ⟨_, rfl⟩
  have hcl := (hr w H.tail).caps.2
  rw [hN] at hr hl hcl ⊢
  obtain ⟨L, hL⟩ : ∃ L, bs ++ (put 2 (N : Int) ++ l.flatMap markB) = L := ⟨_, rfl⟩
  rw [hL]
  replace hL := Lib.hid hL
  have hr0 := Lib.hid hr
  have hM0 := Lib.hid hM
  have K := Lib.hid H
  replace hN := Lib.hid hN
  have hn0 := Lib.hid hn
  clear H hr hM hn
  go_enter Try.func50, Try.ntmps50
  go_wp2_with fail
  refine (number40N n (.slice A n c) bs hn0.out (N : Int) ⟨by omega, by omega⟩ 2 (by omega) 2 rfl w w0 _ K.out (by omega)).mono ?_
  rintro e w1 ⟨A1, c1, rfl, h1, K1⟩
  have K2 := Lib.hid K1
  have h2 := Lib.hid h1
  clear K1 h1 K
  go_wp2_with fail
  go_loopg [0, 16] N (fun g lv iv wr => ∃ (i : Nat) (A : Option Addr) (m c : Nat) (cur : List Int), g + i = N ∧ iv = .int .i64 i ∧ lv = .slice A m c ∧ m ≤ n + 2 + i * 8 ∧ Hid (cur.length = m) ∧ Hid (cur = bs ++ (put 2 (N : Int) ++ (l.take i).flatMap markB)) ∧ Hid (Hs w0 wr (Ls U8 5 (.slice A m c) cur :: R)))
  case atStart => exact ⟨0, A1, n + 2, c1, _, rfl, rfl, rfl, by omega, h2, Lib.hid (by rw [List.take_zero, List.flatMap_nil, List.append_nil]), K2⟩
  case round =>
    clear K2 h2
    obtain ⟨i, A3, m, c3, cur, hg, rfl, rfl, hm, hcm, hcur, K⟩ := hrel
    have hiN : i ≤ N := by omega
    replace hg := Lib.hid hg
    rcases Nat.lt_or_ge i N with hlt | hlt
    · have hi0 : (0 : Int) ≤ (i : Int) := by omega
      have hi1 : (i : Int) < (N : Int) := by omega
      have hwi : IntKind.i64.wrap ((i : Int) + 1) = ((i + 1 : Nat) : Int) := by rw [IntWalk.i64_in _ (by omega)]; omega
      obtain ⟨x, hx⟩ : ∃ x, l[i]? = some x := ⟨_, List.getElem?_eq_getElem (by have := hN.out; omega)⟩
      have hx2 := hM0.out x (List.mem_of_getElem? hx)
      obtain ⟨g, off, rfl⟩ := (hr0.out wr K.out.tail).some_ (by have := hN.out; omega)
      have hst : Hid (cur ++ markB x = bs ++ (put 2 (N : Int) ++ (l.take (i + 1)).flatMap markB)) := by
        show _ = _
        rw [hcur.out, take_one hx, List.flatMap_append, List.flatMap_cons, List.flatMap_nil, List.append_nil, List.append_assoc, List.append_assoc]
      have s0 : wr.cell? ⟨g, off + i, none⟩ = some (.int .i64 x) := by have := (hr0.out wr K.out.tail).cell hx 0 rfl; simpa [Enc.num, Enc.str] using this
      replace hx := Lib.hid hx
      go_wp2_with fail
      refine (mark51 A3 m c3 cur x wr w0 R K.out hcm.out (by omega)).mono ?_
      rintro e w5 ⟨A5, c5, rfl, h5, K5⟩
      have h6 := Lib.hid h5
      have K6 := Lib.hid K5
      have hlen : m + 8 ≤ n + 2 + (i + 1) * 8 := by omega
      clear h5 K5 K hx2
      go_wp2_with fail
      go_roundg (N - (i + 1))
      case measure => have := hg.out; omega
      case rel => exact ⟨i + 1, A5, m + 8, c5, _, by have := hg.out; omega, by go_num, rfl, hlen, h6, hst, K6⟩
    · have hi1 : decide ((i : Int) < (N : Int)) = false := by rw [decide_eq_false_iff_not]; omega
      have hi2 : decide (i < N) = false := by rw [decide_eq_false_iff_not]; omega
      have hfin : cur = L := by
        rw [hcur.out, List.take_of_length_le (by have := hN.out; omega)]
        exact hL.out
      rw [hfin] at hcm K
      clear hlt hfin
      go_wp2_with fail
      go_ret
      rw [hcm.out]
      exact ⟨A3, c3, rfl, hcm.out, K.out⟩
set_option maxRecDepth 100000 in
set_option maxHeartbeats 1600000 in
theorem list52 (A : Option Addr) (n c : Nat) (bs : List Int) (lv : Value) (l : List (Pn4)) (w w0 : World) (R : List HP) (H : Hs w0 w (Ls U8 5 (.slice A n c) bs :: R)) (hn : bs.length = n) (hr : ∀ w', Hs w0 w' R → RdL ((Enc.num .i64).pair (((Enc.num .i64).pair (Enc.num .i64)).pair (Enc.num .i64))) w' lv l) (hl : l.length ≤ 65535) (hb : n ≤ 1000000)
    (hM : ∀ x ∈ l, True) :
    Calls Try.prog 52 #[.slice A n c, lv, .func (.func 53) #[] #[]] w (BB w0 R (bs ++ (put 2 (l.length : Int) ++ l.flatMap paneB)).length (bs ++ (put 2 (l.length : Int) ++ l.flatMap paneB))) := by
  obtain ⟨Al, cl, hv⟩ := (hr w H.tail).form
  subst hv
  obtain ⟨N, hN⟩ : ∃ N, l.length = N := ⟨_, rfl⟩
  have hcl := (hr w H.tail).caps.2
  rw [hN] at hr hl hcl ⊢
  obtain ⟨L, hL⟩ : ∃ L, bs ++ (put 2 (N : Int) ++ l.flatMap paneB) = L := ⟨_, rfl⟩
  rw [hL]
  replace hL := Lib.hid hL
  have hr0 := Lib.hid hr
  have hM0 := Lib.hid hM
  have K := Lib.hid H
  replace hN := Lib.hid hN
  have hn0 := Lib.hid hn
  clear H hr hM hn
  go_enter Try.func52, Try.ntmps52
  go_wp2_with fail
  refine (number40N n (.slice A n c) bs hn0.out (N : Int) ⟨by omega, by omega⟩ 2 (by omega) 2 rfl w w0 _ K.out (by omega)).mono ?_
  rintro e w1 ⟨A1, c1, rfl, h1, K1⟩
  have K2 := Lib.hid K1
  have h2 := Lib.hid h1
  clear K1 h1 K
  go_wp2_with fail
  go_loopg [0, 16] N (fun g lv iv wr => ∃ (i : Nat) (A : Option Addr) (m c : Nat) (cur : List Int), g + i = N ∧ iv = .int .i64 i ∧ lv = .slice A m c ∧ m ≤ n + 2 + i * 32 ∧ Hid (cur.length = m) ∧ Hid (cur = bs ++ (put 2 (N : Int) ++ (l.take i).flatMap paneB)) ∧ Hid (Hs w0 wr (Ls U8 5 (.slice A m c) cur :: R)))
  case atStart => exact ⟨0, A1, n + 2, c1, _, rfl, rfl, rfl, by omega, h2, Lib.hid (by rw [List.take_zero, List.flatMap_nil, List.append_nil]), K2⟩
  case round =>
    clear K2 h2
    obtain ⟨i, A3, m, c3, cur, hg, rfl, rfl, hm, hcm, hcur, K⟩ := hrel
    have hiN : i ≤ N := by omega
    replace hg := Lib.hid hg
    rcases Nat.lt_or_ge i N with hlt | hlt
    · have hi0 : (0 : Int) ≤ (i : Int) := by omega
      have hi1 : (i : Int) < (N : Int) := by omega
      have hwi : IntKind.i64.wrap ((i : Int) + 1) = ((i + 1 : Nat) : Int) := by rw [IntWalk.i64_in _ (by omega)]; omega
      obtain ⟨x, hx⟩ : ∃ x, l[i]? = some x := ⟨_, List.getElem?_eq_getElem (by have := hN.out; omega)⟩
      have hx2 := hM0.out x (List.mem_of_getElem? hx)
      obtain ⟨g, off, rfl⟩ := (hr0.out wr K.out.tail).some_ (by have := hN.out; omega)
      have hst : Hid (cur ++ paneB x = bs ++ (put 2 (N : Int) ++ (l.take (i + 1)).flatMap paneB)) := by
        show _ = _
        rw [hcur.out, take_one hx, List.flatMap_append, List.flatMap_cons, List.flatMap_nil, List.append_nil, List.append_assoc, List.append_assoc]
      obtain ⟨k, ⟨f, t⟩, a⟩ := x
      have s0 : wr.cell? ⟨g, off + i * 4 + 0, none⟩ = some (.int .i64 k) := (hr0.out wr K.out.tail).cell hx 0 rfl
      have s1 : wr.cell? ⟨g, off + i * 4 + 1, none⟩ = some (.int .i64 f) := (hr0.out wr K.out.tail).cell hx 1 rfl
      have s2 : wr.cell? ⟨g, off + i * 4 + 2, none⟩ = some (.int .i64 t) := (hr0.out wr K.out.tail).cell hx 2 rfl
      have s3 : wr.cell? ⟨g, off + i * 4 + 3, none⟩ = some (.int .i64 a) := (hr0.out wr K.out.tail).cell hx 3 rfl
      simp only [Nat.add_zero] at s0
      replace hx := Lib.hid hx
      have KB := Lib.hid (K.out.alloc (.cells #[.int .i64 k, .int .i64 f, .int .i64 t, .int .i64 a] 106)).at1
      go_upto_region 5 with (fail)
      clear s0 s1 s2 s3
      generalize World.alloc _ _ = wb at KB ⊢
      generalize wr.heap.size = pb at KB ⊢
      have d0 : wb.cell? ⟨pb, 0, none⟩ = some (.int .i64 k) := KB.out.at1.cellOf 0 rfl
      have d1 : wb.cell? ⟨pb, 1, none⟩ = some (.int .i64 f) := KB.out.at1.cellOf 1 rfl
      have d2 : wb.cell? ⟨pb, 2, none⟩ = some (.int .i64 t) := KB.out.at1.cellOf 2 rfl
      have d3 : wb.cell? ⟨pb, 3, none⟩ = some (.int .i64 a) := KB.out.at1.cellOf 3 rfl
      go_wp2_with fail
      refine (pane53 A3 m c3 cur (k, (f, t), a) wb w0 _ KB.out hcm.out (by omega)).mono ?_
      rintro e w5 ⟨A5, c5, rfl, h5, K5⟩
      have h6 := Lib.hid h5
      have K6 := Lib.hid K5.at1.tail
      have hlen : m + 32 ≤ n + 2 + (i + 1) * 32 := by omega
      clear h5 K5 K hx2
      go_wp2_with fail
      go_roundg (N - (i + 1))
      case measure => have := hg.out; omega
      case rel => exact ⟨i + 1, A5, m + 32, c5, _, by have := hg.out; omega, by go_num, rfl, hlen, h6, hst, K6⟩
    · have hi1 : decide ((i : Int) < (N : Int)) = false := by rw [decide_eq_false_iff_not]; omega
      have hi2 : decide (i < N) = false := by rw [decide_eq_false_iff_not]; omega
      have hfin : cur = L := by
        rw [hcur.out, List.take_of_length_le (by have := hN.out; omega)]
        exact hL.out
      rw [hfin] at hcm K
      clear hlt hfin
      go_wp2_with fail
      go_ret
      rw [hcm.out]
      exact ⟨A3, c3, rfl, hcm.out, K.out⟩
set_option maxRecDepth 100000 in
set_option maxHeartbeats 1600000 in
theorem list54 (A : Option Addr) (n c : Nat) (bs : List Int) (lv : Value) (l : List (Ot)) (w w0 : World) (R : List HP) (H : Hs w0 w (Ls U8 5 (.slice A n c) bs :: R)) (hn : bs.length = n) (hr : ∀ w', Hs w0 w' R → RdL ((Enc.num .i64).pair ((Enc.num .i64).pair (((Enc.num .i64).pair ((Enc.num .i64).pair (Enc.num .i64))).pair ((Enc.num .i64).pair ((Enc.num .u64).pair Enc.flag))))) w' lv l) (hl : l.length ≤ 65535) (hb : n ≤ 1000000)
    (hM : ∀ x ∈ l, (0 ≤ x.1 ∧ x.1 ≤ 65535) ∧ U64 x.2.2.2.2.1) :
    Calls Try.prog 54 #[.slice A n c, lv, .func (.func 55) #[] #[]] w (BB w0 R (bs ++ (put 2 (l.length : Int) ++ l.flatMap outB)).length (bs ++ (put 2 (l.length : Int) ++ l.flatMap outB))) := by
  obtain ⟨Al, cl, hv⟩ := (hr w H.tail).form
  subst hv
  obtain ⟨N, hN⟩ : ∃ N, l.length = N := ⟨_, rfl⟩
  have hcl := (hr w H.tail).caps.2
  rw [hN] at hr hl hcl ⊢
  obtain ⟨L, hL⟩ : ∃ L, bs ++ (put 2 (N : Int) ++ l.flatMap outB) = L := ⟨_, rfl⟩
  rw [hL]
  replace hL := Lib.hid hL
  have hr0 := Lib.hid hr
  have hM0 := Lib.hid hM
  have K := Lib.hid H
  replace hN := Lib.hid hN
  have hn0 := Lib.hid hn
  clear H hr hM hn
  go_enter Try.func54, Try.ntmps54
  go_wp2_with fail
  refine (number40N n (.slice A n c) bs hn0.out (N : Int) ⟨by omega, by omega⟩ 2 (by omega) 2 rfl w w0 _ K.out (by omega)).mono ?_
  rintro e w1 ⟨A1, c1, rfl, h1, K1⟩
  have K2 := Lib.hid K1
  have h2 := Lib.hid h1
  clear K1 h1 K
  go_wp2_with fail
  go_loopg [0, 16] N (fun g lv iv wr => ∃ (i : Nat) (A : Option Addr) (m c : Nat) (cur : List Int), g + i = N ∧ iv = .int .i64 i ∧ lv = .slice A m c ∧ m ≤ n + 2 + i * 27 ∧ Hid (cur.length = m) ∧ Hid (cur = bs ++ (put 2 (N : Int) ++ (l.take i).flatMap outB)) ∧ Hid (Hs w0 wr (Ls U8 5 (.slice A m c) cur :: R)))
  case atStart => exact ⟨0, A1, n + 2, c1, _, rfl, rfl, rfl, by omega, h2, Lib.hid (by rw [List.take_zero, List.flatMap_nil, List.append_nil]), K2⟩
  case round =>
    clear K2 h2
    obtain ⟨i, A3, m, c3, cur, hg, rfl, rfl, hm, hcm, hcur, K⟩ := hrel
    have hiN : i ≤ N := by omega
    replace hg := Lib.hid hg
    rcases Nat.lt_or_ge i N with hlt | hlt
    · have hi0 : (0 : Int) ≤ (i : Int) := by omega
      have hi1 : (i : Int) < (N : Int) := by omega
      have hwi : IntKind.i64.wrap ((i : Int) + 1) = ((i + 1 : Nat) : Int) := by rw [IntWalk.i64_in _ (by omega)]; omega
      obtain ⟨x, hx⟩ : ∃ x, l[i]? = some x := ⟨_, List.getElem?_eq_getElem (by have := hN.out; omega)⟩
      have hx2 := hM0.out x (List.mem_of_getElem? hx)
      obtain ⟨g, off, rfl⟩ := (hr0.out wr K.out.tail).some_ (by have := hN.out; omega)
      have hst : Hid (cur ++ outB x = bs ++ (put 2 (N : Int) ++ (l.take (i + 1)).flatMap outB)) := by
        show _ = _
        rw [hcur.out, take_one hx, List.flatMap_append, List.flatMap_cons, List.flatMap_nil, List.append_nil, List.append_assoc, List.append_assoc]
      have hol := outB_len x
      obtain ⟨B, hB⟩ : ∃ B, outB x = B := ⟨_, rfl⟩
      rw [hB] at hst hol
      have T := Lib.hid (fun w R H => out55N A3 m c3 cur x.1 x.2 hx2.1 hx2.2 w w0 R H hcm.out (by omega))
      rw [show outB (x.1, x.2) = B from hB] at T
      obtain ⟨ch, k, ⟨r1, r2, r3⟩, mk, nn, o⟩ := x
      replace T : Hid (∀ w R, Hs w0 w (Ls U8 5 (.slice A3 m c3) cur :: R) → Calls Try.prog 55 #[.slice A3 m c3, .agg #[.int .i64 ch, .int .i64 k, .int .i64 r1, .int .i64 r2, .int .i64 r3, .int .i64 mk, .int .u64 nn, .bool o]] w (BB w0 R (m + B.length) (cur ++ B))) := T
      obtain ⟨lb, hlb⟩ : ∃ n, B.length = n := ⟨_, rfl⟩
      rw [hlb] at T hol
      clear hB hlb
      have s0 : wr.cell? ⟨g, off + i * 8 + 0, none⟩ = some (.int .i64 ch) := (hr0.out wr K.out.tail).cell hx 0 rfl
      have s1 : wr.cell? ⟨g, off + i * 8 + 1, none⟩ = some (.int .i64 k) := (hr0.out wr K.out.tail).cell hx 1 rfl
      have s2 : wr.cell? ⟨g, off + i * 8 + 2, none⟩ = some (.int .i64 r1) := (hr0.out wr K.out.tail).cell hx 2 rfl
      have s3 : wr.cell? ⟨g, off + i * 8 + 3, none⟩ = some (.int .i64 r2) := (hr0.out wr K.out.tail).cell hx 3 rfl
      have s4 : wr.cell? ⟨g, off + i * 8 + 4, none⟩ = some (.int .i64 r3) := (hr0.out wr K.out.tail).cell hx 4 rfl
      have s5 : wr.cell? ⟨g, off + i * 8 + 5, none⟩ = some (.int .i64 mk) := (hr0.out wr K.out.tail).cell hx 5 rfl
      have s6 : wr.cell? ⟨g, off + i * 8 + 6, none⟩ = some (.int .u64 nn) := (hr0.out wr K.out.tail).cell hx 6 rfl
      have s7 : wr.cell? ⟨g, off + i * 8 + 7, none⟩ = some (.bool o) := (hr0.out wr K.out.tail).cell hx 7 rfl
      simp only [Nat.add_zero] at s0
      replace hx := Lib.hid hx
      have KB := Lib.hid (K.out.alloc (.cells #[.int .i64 ch, .int .i64 k, .int .i64 r1, .int .i64 r2, .int .i64 r3, .int .i64 mk, .int .u64 nn, .bool o] 97)).at1
      go_upto_region 5 with (fail)
      clear s0 s1 s2 s3 s4 s5 s6 s7
      generalize World.alloc _ _ = wb at KB ⊢
      generalize wr.heap.size = pb at KB ⊢
      have d0 : wb.cell? ⟨pb, 0, none⟩ = some (.int .i64 ch) := KB.out.at1.cellOf 0 rfl
      have d1 : wb.cell? ⟨pb, 1, none⟩ = some (.int .i64 k) := KB.out.at1.cellOf 1 rfl
      have d2 : wb.cell? ⟨pb, 2, none⟩ = some (.int .i64 r1) := KB.out.at1.cellOf 2 rfl
      have d3 : wb.cell? ⟨pb, 3, none⟩ = some (.int .i64 r2) := KB.out.at1.cellOf 3 rfl
      have d4 : wb.cell? ⟨pb, 4, none⟩ = some (.int .i64 r3) := KB.out.at1.cellOf 4 rfl
      have d5 : wb.cell? ⟨pb, 5, none⟩ = some (.int .i64 mk) := KB.out.at1.cellOf 5 rfl
      have d6 : wb.cell? ⟨pb, 6, none⟩ = some (.int .u64 nn) := KB.out.at1.cellOf 6 rfl
      have d7 : wb.cell? ⟨pb, 7, none⟩ = some (.bool o) := KB.out.at1.cellOf 7 rfl
      go_wp2_with fail
      refine (T.out wb _ KB.out).mono ?_
      rintro e w5 ⟨A5, c5, rfl, h5, K5⟩
      have h6 := Lib.hid h5
      have K6 := Lib.hid K5.at1.tail
      have hlen : m + lb ≤ n + 2 + (i + 1) * 27 := by omega
      clear h5 K5 K hx2
      go_wp2_with fail
      go_roundg (N - (i + 1))
      case measure => have := hg.out; omega
      case rel => exact ⟨i + 1, A5, m + lb, c5, _, by have := hg.out; omega, by go_num, rfl, hlen, h6, hst, K6⟩
    · have hi1 : decide ((i : Int) < (N : Int)) = false := by rw [decide_eq_false_iff_not]; omega
      have hi2 : decide (i < N) = false := by rw [decide_eq_false_iff_not]; omega
      have hfin : cur = L := by
        rw [hcur.out, List.take_of_length_le (by have := hN.out; omega)]
        exact hL.out
      rw [hfin] at hcm K
      clear hlt hfin
      go_wp2_with fail
      go_ret
      rw [hcm.out]
      exact ⟨A3, c3, rfl, hcm.out, K.out⟩
def IxO (p : Ot → Bool) (l : List (Ot)) (w0 : World) (R : List HP) (e : Ending) (w' : World) : Prop := ∃ r : Int, e = .returned (.int .i64 r) ∧ decide (0 ≤ r) = l.any p ∧ Hs w0 w' R
set_option maxRecDepth 100000 in
set_option maxHeartbeats 1600000 in
theorem index76 (lv : Value) (l : List (Ot)) (w w0 : World) (R : List HP) (H : Hs w0 w R) (hr : ∀ w', Hs w0 w' R → RdL ((Enc.num .i64).pair ((Enc.num .i64).pair (((Enc.num .i64).pair ((Enc.num .i64).pair (Enc.num .i64))).pair ((Enc.num .i64).pair ((Enc.num .u64).pair Enc.flag))))) w' lv l) (hl : l.length ≤ 1000000000) (hok : ∀ x ∈ l, True) :
    Calls Try.prog 76 #[lv, .func (.func 48) #[] #[]] w (IxO badO l w0 R) := by
  obtain ⟨Al, cl, hv⟩ := (hr w H).form
  subst hv
  obtain ⟨N, hN⟩ : ∃ N, l.length = N := ⟨_, rfl⟩
  have hcl := (hr w H).caps.2
  rw [hN] at hr hl hcl ⊢
  have hr0 := Lib.hid hr
  have hok0 := Lib.hid hok
  have K := Lib.hid H
  replace hN := Lib.hid hN
  clear H hr hok
  go_enter Try.func76, Try.ntmps76
  go_wp2_with fail
  go_loopg [8] N (fun g iv wr => ∃ i : Nat, g + i = N ∧ iv = .int .i64 i ∧ Hid ((l.take i).any badO = false) ∧ Hid (Hs w0 wr R))
  case atStart => exact ⟨0, rfl, rfl, Lib.hid (by rw [List.take_zero]; rfl), K⟩
  case round =>
    clear K
    obtain ⟨i, hg, rfl, hany, K⟩ := hrel
    have hiN : i ≤ N := by omega
    replace hg := Lib.hid hg
    rcases Nat.lt_or_ge i N with hlt | hlt
    · have hi0 : (0 : Int) ≤ (i : Int) := by omega
      have hi1 : (i : Int) < (N : Int) := by omega
      have hwi : IntKind.i64.wrap ((i : Int) + 1) = ((i + 1 : Nat) : Int) := by rw [IntWalk.i64_in _ (by omega)]; omega
      obtain ⟨x, hx⟩ : ∃ x, l[i]? = some x := ⟨_, List.getElem?_eq_getElem (by have := hN.out; omega)⟩
      have hxok := hok0.out x (List.mem_of_getElem? hx)
      obtain ⟨g, off, rfl⟩ := (hr0.out wr K.out).some_ (by have := hN.out; omega)
      have T : Hid (∀ w R, Hs w0 w R → Calls Try.prog 48 #[.agg #[.int .i64 x.1, .int .i64 x.2.1, .int .i64 x.2.2.1.1, .int .i64 x.2.2.1.2.1, .int .i64 x.2.2.1.2.2, .int .i64 x.2.2.2.1, .int .u64 x.2.2.2.2.1, .bool x.2.2.2.2.2]] w fun e w' => e = .returned (.bool (badO x)) ∧ Hs w0 w' R) := fun w R H => bad48 x.1 x.2 w w0 R H
      have s0 : wr.cell? ⟨g, off + i * 8 + 0, none⟩ = some (.int .i64 x.1) := (hr0.out wr K.out).cell hx 0 rfl
      have s1 : wr.cell? ⟨g, off + i * 8 + 1, none⟩ = some (.int .i64 x.2.1) := (hr0.out wr K.out).cell hx 1 rfl
      have s2 : wr.cell? ⟨g, off + i * 8 + 2, none⟩ = some (.int .i64 x.2.2.1.1) := (hr0.out wr K.out).cell hx 2 rfl
      have s3 : wr.cell? ⟨g, off + i * 8 + 3, none⟩ = some (.int .i64 x.2.2.1.2.1) := (hr0.out wr K.out).cell hx 3 rfl
      have s4 : wr.cell? ⟨g, off + i * 8 + 4, none⟩ = some (.int .i64 x.2.2.1.2.2) := (hr0.out wr K.out).cell hx 4 rfl
      have s5 : wr.cell? ⟨g, off + i * 8 + 5, none⟩ = some (.int .i64 x.2.2.2.1) := (hr0.out wr K.out).cell hx 5 rfl
      have s6 : wr.cell? ⟨g, off + i * 8 + 6, none⟩ = some (.int .u64 x.2.2.2.2.1) := (hr0.out wr K.out).cell hx 6 rfl
      have s7 : wr.cell? ⟨g, off + i * 8 + 7, none⟩ = some (.bool x.2.2.2.2.2) := (hr0.out wr K.out).cell hx 7 rfl
      simp only [Nat.add_zero] at s0
      replace hx := Lib.hid hx
      go_wp2_with fail
      refine (T.out wr R K.out).mono ?_
      obtain ⟨b, hb⟩ : ∃ b, badO x = b := ⟨_, rfl⟩
      rw [hb]
      rintro e w5 ⟨rfl, K5⟩
      replace K5 := Lib.hid K5
      clear K hxok
      cases b with
      | true =>
        have hyes : Hid (l.any badO = true) := by show _ = _; rw [List.any_eq_true]; exact ⟨x, List.mem_of_getElem? hx.out, hb⟩
        clear hb
        go_wp2_with fail
        go_ret
        exact ⟨_, rfl, by rw [hyes.out, decide_eq_true_eq]; omega, K5.out⟩
      | false =>
        have hno : Hid ((l.take (i + 1)).any badO = false) := by show _ = _; rw [take_one hx.out, List.any_append, hany.out, List.any_cons, hb]; rfl
        clear hb
        go_wp2_with fail
        go_roundg (N - (i + 1))
        case measure => have := hg.out; omega
        case rel => exact ⟨i + 1, by have := hg.out; omega, by go_num, hno, K5⟩
    · have hi1 : decide ((i : Int) < (N : Int)) = false := by rw [decide_eq_false_iff_not]; omega
      have hi2 : decide (i < N) = false := by rw [decide_eq_false_iff_not]; omega
      have hno : Hid (l.any badO = false) := by have := hany.out; rwa [List.take_of_length_le (by have := hN.out; omega)] at this
      clear hlt
      go_wp2_with fail
      go_ret
      exact ⟨-1, rfl, by rw [hno.out]; rfl, K.out⟩
set_option maxRecDepth 100000 in
set_option maxHeartbeats 400000 in
theorem contains49 (lv : Value) (l : List (Ot)) (w w0 : World) (R : List HP) (H : Hs w0 w R) (hr : ∀ w', Hs w0 w' R → RdL ((Enc.num .i64).pair ((Enc.num .i64).pair (((Enc.num .i64).pair ((Enc.num .i64).pair (Enc.num .i64))).pair ((Enc.num .i64).pair ((Enc.num .u64).pair Enc.flag))))) w' lv l) (hl : l.length ≤ 1000000000) (hok : ∀ x ∈ l, True) :
    Calls Try.prog 49 #[lv, .func (.func 48) #[] #[]] w fun e w' => e = .returned (.bool (l.any badO)) ∧ Hs w0 w' R := by
  obtain ⟨Al, cl, hv⟩ := (hr w H).form
  subst hv
  have T := Lib.hid (index76 _ l w w0 R H hr hl hok)
  generalize l.length = N at *
  obtain ⟨q, hq⟩ : ∃ q, l.any badO = q := ⟨_, rfl⟩
  rw [hq]
  replace hq := Lib.hid hq
  clear H hr hok
  go_enter Try.func49, Try.ntmps49
  go_wp2_with fail
  refine T.out.mono ?_
  rintro e w1 ⟨r, rfl, hrq, K⟩
  rw [hq.out] at hrq
  replace K := Lib.hid K
  clear T
  go_wp2_with fail
  all_goals (go_ret; exact ⟨by first | rw [← hrq]; rfl | rfl, K.out⟩)
/-! ### a part of a checkpoint: task, offset, mark, marks, panes, frames captured -/
abbrev Sn : Type := Int × Int × Int × List Int × List Pn4 × List Ot
def snB (s : Sn) : List Int := put 2 s.1 ++ (put 2 s.2.1 ++ (put 8 (u64 s.2.2.1) ++ ((put 2 (s.2.2.2.1.length : Int) ++ s.2.2.2.1.flatMap markB) ++ ((put 2 (s.2.2.2.2.1.length : Int) ++ s.2.2.2.2.1.flatMap paneB) ++ (put 2 (s.2.2.2.2.2.length : Int) ++ s.2.2.2.2.2.flatMap outB)))))
def snBig (s : Sn) : Bool := decide (4096 < s.2.2.2.2.1.length) || (decide (4096 < s.2.2.2.2.2.length) || decide (65535 < s.2.2.2.1.length))
def snBad (s : Sn) : Bool := decide (s.1 < 0) || (decide (65535 < s.1) || (decide (s.2.1 < 0) || (decide (65535 < s.2.1) || s.2.2.2.2.2.any badO)))
def snErr (s : Sn) : Int := if snBig s = true then 12 else if snBad s = true then 10 else 0
def snOut (s : Sn) : List Int := if snBig s = true then [] else if snBad s = true then [] else snB s
end Go.Proofs.Ytjdkpogkhecijaa

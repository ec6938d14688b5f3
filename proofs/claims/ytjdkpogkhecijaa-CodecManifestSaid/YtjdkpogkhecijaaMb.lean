import Derived.Test.YtjdkpogkhecijaaMa
import Derived.IntWalk
import Derived.Test.YtjdkpogkhecijaaProg
import Derived.Test.YtjdkpogkhecijaaLs
import Derived.Outline
import Derived.StillTailTactics
import Derived.Deep.DeepCutAuto
import Derived.Deep.CutBlock
import Derived.Deep.LoopGhost
import Derived.Deep.QuietTactic
import Derived.BigQuiet
import Derived.Deep.RegionHeld3
import Derived.Deep.RegionLaw
set_option linter.unusedVariables false
set_option linter.unusedSimpArgs false
namespace Go.Proofs.Ytjdkpogkhecijaa
open Go.RowKit
set_option maxRecDepth 100000 in
set_option maxHeartbeats 1600000 in
theorem list61 (A : Option Addr) (n c : Nat) (bs : List Int) (lv : Value) (l : List (ByteArray)) (w w0 : World) (R : List HP) (H : Hs w0 w (Ls U8 5 (.slice A n c) bs :: R)) (hn : bs.length = n) (hr : ∀ w', Hs w0 w' R → RdL (Enc.str) w' lv l) (hl : l.length ≤ 65535) (hb : n ≤ 1000000)
    (hM : ∀ x ∈ l, x.size ≤ 32) :
    Calls Try.prog 61 #[.slice A n c, lv, .func (.func 62) #[] #[]] w (BB w0 R (bs ++ (put 2 (l.length : Int) ++ l.flatMap fileB)).length (bs ++ (put 2 (l.length : Int) ++ l.flatMap fileB))) := by
  obtain ⟨Al, cl, hv⟩ := (hr w H.tail).form
  subst hv
  obtain ⟨N, hN⟩ : ∃ N, l.length = N := ⟨_, rfl⟩
  have hcl := (hr w H.tail).caps.2
  rw [hN] at hr hl hcl ⊢
  obtain ⟨L, hL⟩ : ∃ L, bs ++ (put 2 (N : Int) ++ l.flatMap fileB) = L := ⟨_, rfl⟩
  rw [hL]
  replace hL := Lib.hid hL
  have hr0 := Lib.hid hr
  have hM0 := Lib.hid hM
  have K := Lib.hid H
  replace hN := Lib.hid hN
  have hn0 := Lib.hid hn
  clear H hr hM hn
  go_enter Try.func61, Try.ntmps61
  go_wp2_with fail
  refine (number40N n (.slice A n c) bs hn0.out (N : Int) ⟨by omega, by omega⟩ 2 (by omega) 2 rfl w w0 _ K.out (by omega)).mono ?_
  rintro e w1 ⟨A1, c1, rfl, h1, K1⟩
  have K2 := Lib.hid K1
  have h2 := Lib.hid h1
  clear K1 h1 K
  go_wp2_with fail
  go_loopg [0, 16] N (fun g lv iv wr => ∃ (i : Nat) (A : Option Addr) (m c : Nat) (cur : List Int), g + i = N ∧ iv = .int .i64 i ∧ lv = .slice A m c ∧ m ≤ n + 2 + i * 33 ∧ Hid (cur.length = m) ∧ Hid (cur = bs ++ (put 2 (N : Int) ++ (l.take i).flatMap fileB)) ∧ Hid (Hs w0 wr (Ls U8 5 (.slice A m c) cur :: R)))
  case atStart => exact ⟨0, A1, n + 2, c1, _, rfl, rfl, rfl, by omega, h2, Lib.hid (by rw [List.take_zero, List.flatMap_nil, List.append_nil]), K2⟩
  case round =>
    clear K2 h2
    obtain ⟨i, A3, m, c3, cur, hg, rfl, rfl, hm, hcm, hcur, K⟩ := hrel
    have hiN : i ≤ N := by omega
    replace hg := Lib.hid hg
    rcases Nat.lt_or_ge i N with hlt | hlt
    · have hi0 : (0 : Int) ≤ (i : Int) := by omega
      have hi1 : (i : Int) < (N : Int) := by omega
      have hwi : IntKind.i64.wrap ((i : Int) + 1) = ((i + 1 : Nat) : Int) := by rw [IntWalk.i64_in _ (by omega)]; omega
      obtain ⟨x, hx⟩ : ∃ x, l[i]? = some x := ⟨_, List.getElem?_eq_getElem (by have := hN.out; omega)⟩
      have hx2 := hM0.out x (List.mem_of_getElem? hx)
      obtain ⟨g, off, rfl⟩ := (hr0.out wr K.out.tail).some_ (by have := hN.out; omega)
      have hst : Hid (cur ++ fileB x = bs ++ (put 2 (N : Int) ++ (l.take (i + 1)).flatMap fileB)) := by
        show _ = _
        rw [hcur.out, take_one hx, List.flatMap_append, List.flatMap_cons, List.flatMap_nil, List.append_nil, List.append_assoc, List.append_assoc]
      have s0 : wr.cell? ⟨g, off + i, none⟩ = some (.string x) := by have := (hr0.out wr K.out.tail).cell hx 0 rfl; simpa [Enc.num, Enc.str] using this
      replace hx := Lib.hid hx
      go_wp2_with fail
      refine (name62 A3 m c3 cur x wr w0 R K.out hcm.out (by omega) (by omega)).mono ?_
      rintro e w5 ⟨A5, c5, rfl, h5, K5⟩
      have h6 := Lib.hid h5
      have K6 := Lib.hid K5
      have hlen : m + (1 + x.size) ≤ n + 2 + (i + 1) * 33 := by omega
      clear h5 K5 K hx2
      go_wp2_with fail
      go_roundg (N - (i + 1))
      case measure => have := hg.out; omega
      case rel => exact ⟨i + 1, A5, m + (1 + x.size), c5, _, by have := hg.out; omega, by go_num, rfl, hlen, h6, hst, K6⟩
    · have hi1 : decide ((i : Int) < (N : Int)) = false := by rw [decide_eq_false_iff_not]; omega
      have hi2 : decide (i < N) = false := by rw [decide_eq_false_iff_not]; omega
      have hfin : cur = L := by
        rw [hcur.out, List.take_of_length_le (by have := hN.out; omega)]
        exact hL.out
      rw [hfin] at hcm K
      clear hlt hfin
      go_wp2_with fail
      go_ret
      rw [hcm.out]
      exact ⟨A3, c3, rfl, hcm.out, K.out⟩
def longN (s : ByteArray) : Bool := decide (32 < s.size)
set_option maxHeartbeats 400000 in
theorem long60 (s : ByteArray) (w : World) : Calls Try.prog 60 #[.string s] w fun e w' => e = .returned (.bool (longN s)) ∧ w = w' := by
  obtain ⟨q, hq⟩ : ∃ q, longN s = q := ⟨_, rfl⟩
  rw [hq]
  unfold longN at hq
  have h1 : decide ((32 : Int) < (s.size : Int)) = q := by rw [← hq, decide_eq_decide]; omega
  go_enter Try.func60, Try.ntmps60
  go_wp2_with fail
  go_ret
  exact ⟨by first | rfl | (rw [← hq]; rfl), rfl⟩
theorem long60H (s : ByteArray) (w w0 : World) (R : List HP) (H : Hs w0 w R) : Calls Try.prog 60 #[.string s] w fun e w' => e = .returned (.bool (longN s)) ∧ Hs w0 w' R := by
  refine (long60 s w).mono ?_
  rintro e w' ⟨rfl, rfl⟩
  exact ⟨rfl, H⟩
def IxP (p : ByteArray → Bool) (l : List (ByteArray)) (w0 : World) (R : List HP) (e : Ending) (w' : World) : Prop := ∃ r : Int, e = .returned (.int .i64 r) ∧ decide (0 ≤ r) = l.any p ∧ Hs w0 w' R
set_option maxRecDepth 100000 in
set_option maxHeartbeats 1600000 in
theorem index77 (lv : Value) (l : List (ByteArray)) (w w0 : World) (R : List HP) (H : Hs w0 w R) (hr : ∀ w', Hs w0 w' R → RdL (Enc.str) w' lv l) (hl : l.length ≤ 1000000000) (hok : ∀ x ∈ l, True) :
    Calls Try.prog 77 #[lv, .func (.func 60) #[] #[]] w (IxP longN l w0 R) := by
  obtain ⟨Al, cl, hv⟩ := (hr w H).form
  subst hv
  obtain ⟨N, hN⟩ : ∃ N, l.length = N := ⟨_, rfl⟩
  have hcl := (hr w H).caps.2
  rw [hN] at hr hl hcl ⊢
  have hr0 := Lib.hid hr
  have hok0 := Lib.hid hok
  have K := Lib.hid H
  replace hN := Lib.hid hN
  clear H hr hok
  go_enter Try.func77, Try.ntmps77
  go_wp2_with fail
  go_loopg [8] N (fun g iv wr => ∃ i : Nat, g + i = N ∧ iv = .int .i64 i ∧ Hid ((l.take i).any longN = false) ∧ Hid (Hs w0 wr R))
  case atStart => exact ⟨0, rfl, rfl, Lib.hid (by rw [List.take_zero]; rfl), K⟩
  case round =>
    clear K
    obtain ⟨i, hg, rfl, hany, K⟩ := hrel
    have hiN : i ≤ N := by omega
    replace hg := Lib.hid hg
    rcases Nat.lt_or_ge i N with hlt | hlt
    · have hi0 : (0 : Int) ≤ (i : Int) := by omega
      have hi1 : (i : Int) < (N : Int) := by omega
      have hwi : IntKind.i64.wrap ((i : Int) + 1) = ((i + 1 : Nat) : Int) := by rw [IntWalk.i64_in _ (by omega)]; omega
      obtain ⟨x, hx⟩ : ∃ x, l[i]? = some x := ⟨_, List.getElem?_eq_getElem (by have := hN.out; omega)⟩
      have hxok := hok0.out x (List.mem_of_getElem? hx)
      obtain ⟨g, off, rfl⟩ := (hr0.out wr K.out).some_ (by have := hN.out; omega)
      have s0 : wr.cell? ⟨g, off + i, none⟩ = some (.string x) := by have := (hr0.out wr K.out).cell hx 0 rfl; simpa [Enc.num, Enc.str] using this
      replace hx := Lib.hid hx
      go_wp2_with fail
      refine (long60H x wr w0 R K.out).mono ?_
      obtain ⟨b, hb⟩ : ∃ b, longN x = b := ⟨_, rfl⟩
      rw [hb]
      rintro e w5 ⟨rfl, K5⟩
      replace K5 := Lib.hid K5
      clear K hxok
      cases b with
      | true =>
        have hyes : Hid (l.any longN = true) := by show _ = _; rw [List.any_eq_true]; exact ⟨x, List.mem_of_getElem? hx.out, hb⟩
        clear hb
        go_wp2_with fail
        go_ret
        exact ⟨_, rfl, by rw [hyes.out, decide_eq_true_eq]; omega, K5.out⟩
      | false =>
        have hno : Hid ((l.take (i + 1)).any longN = false) := by show _ = _; rw [take_one hx.out, List.any_append, hany.out, List.any_cons, hb]; rfl
        clear hb
        go_wp2_with fail
        go_roundg (N - (i + 1))
        case measure => have := hg.out; omega
        case rel => exact ⟨i + 1, by have := hg.out; omega, by go_num, hno, K5⟩
    · have hi1 : decide ((i : Int) < (N : Int)) = false := by rw [decide_eq_false_iff_not]; omega
      have hi2 : decide (i < N) = false := by rw [decide_eq_false_iff_not]; omega
      have hno : Hid (l.any longN = false) := by have := hany.out; rwa [List.take_of_length_le (by have := hN.out; omega)] at this
      clear hlt
      go_wp2_with fail
      go_ret
      exact ⟨-1, rfl, by rw [hno.out]; rfl, K.out⟩
set_option maxRecDepth 100000 in
set_option maxHeartbeats 400000 in
theorem contains59 (lv : Value) (l : List (ByteArray)) (w w0 : World) (R : List HP) (H : Hs w0 w R) (hr : ∀ w', Hs w0 w' R → RdL (Enc.str) w' lv l) (hl : l.length ≤ 1000000000) (hok : ∀ x ∈ l, True) :
    Calls Try.prog 59 #[lv, .func (.func 60) #[] #[]] w fun e w' => e = .returned (.bool (l.any longN)) ∧ Hs w0 w' R := by
  obtain ⟨Al, cl, hv⟩ := (hr w H).form
  subst hv
  have T := Lib.hid (index77 _ l w w0 R H hr hl hok)
  generalize l.length = N at *
  obtain ⟨q, hq⟩ : ∃ q, l.any longN = q := ⟨_, rfl⟩
  rw [hq]
  replace hq := Lib.hid hq
  clear H hr hok
  go_enter Try.func59, Try.ntmps59
  go_wp2_with fail
  refine T.out.mono ?_
  rintro e w1 ⟨r, rfl, hrq, K⟩
  rw [hq.out] at hrq
  replace K := Lib.hid K
  clear T
  go_wp2_with fail
  all_goals (go_ret; exact ⟨by first | rw [← hrq]; rfl | rfl, K.out⟩)
end Go.Proofs.Ytjdkpogkhecijaa

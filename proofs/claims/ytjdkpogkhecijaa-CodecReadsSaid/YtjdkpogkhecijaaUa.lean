import Derived.Test.YtjdkpogkhecijaaWh
import Derived.Test.YtjdkpogkhecijaaFa
import Derived.Test.YtjdkpogkhecijaaAs
import Derived.IntWalk
import Derived.Test.YtjdkpogkhecijaaProg
import Derived.Test.YtjdkpogkhecijaaLs
import Derived.Outline
import Derived.StillTailTactics
import Derived.Deep.DeepCutAuto
import Derived.Deep.CutBlock
import Derived.Deep.LoopGhost
import Derived.Deep.QuietTactic
import Derived.BigQuiet
import Derived.Deep.RegionHeld3
import Derived.Deep.RegionLaw
set_option linter.unusedVariables false
set_option linter.unusedSimpArgs false
namespace Go.Proofs.Ytjdkpogkhecijaa
open Go.RowKit
open Go.WideShapes (bytes_inj)
/-! ### files' names -/
def bytesOf (s : ByteArray) : List Int := s.data.toList.map fun c => (c.toNat : Int)
theorem bytesOf_len (s : ByteArray) : (bytesOf s).length = s.size := by unfold bytesOf; rw [List.length_map, Array.length_toList]; rfl
theorem bytesOf_byt (s : ByteArray) : Byt (bytesOf s) := fun x hx => by
  unfold bytesOf at hx
  obtain ⟨c, _, rfl⟩ := List.mem_map.1 hx
  have := c.toNat_lt
  omega
theorem bytesOf_str (l : List Int) (h : Byt l) : bytesOf (strOfNums l) = l := by
  unfold bytesOf
  rw [strOfNums_data, List.map_map]
  have : ∀ x ∈ l, ((fun c : UInt8 => (c.toNat : Int)) ∘ fun n : Int => UInt8.ofNat n.toNat) x = x := fun x hx => by
    have := h x hx
    show ((UInt8.ofNat x.toNat).toNat : Int) = x
    rw [UInt8.toNat_ofNat']
    omega
  rw [List.map_congr_left this, List.map_id']
theorem str_bytesOf (s : ByteArray) : strOfNums (bytesOf s) = s := by
  refine bytes_inj ?_
  rw [strOfNums_data]
  unfold bytesOf
  rw [List.map_map]
  have : ((fun n : Int => UInt8.ofNat n.toNat) ∘ fun c : UInt8 => (c.toNat : Int)) = id := by
    funext c
    show UInt8.ofNat ((c.toNat : Int)).toNat = c
    rw [Int.toNat_natCast]
    simp
  rw [this, List.map_id]
def fileB (s : ByteArray) : List Int := put 1 (s.size : Int) ++ bytesOf s
theorem fileB_len (s : ByteArray) : (fileB s).length = 1 + s.size := by unfold fileB; rw [List.length_append, put_len, bytesOf_len]
theorem fileB_byt (s : ByteArray) : Byt (fileB s) := Byt.append (put_byt _ _) (bytesOf_byt s)
/-- Bytes are told behind what was there. -/
def BB (w0 : World) (R : List HP) (n : Nat) (L : List Int) (e : Ending) (w' : World) : Prop := ∃ A c, e = .returned (.slice A n c) ∧ L.length = n ∧ Hs w0 w' (Ls U8 5 (.slice A n c) L :: R)
set_option maxRecDepth 100000 in
set_option maxHeartbeats 800000 in
theorem name62 (A : Option Addr) (n c : Nat) (bs : List Int) (s : ByteArray) (w w0 : World) (R : List HP) (H : Hs w0 w (Ls U8 5 (.slice A n c) bs :: R)) (hn : bs.length = n) (hl : n ≤ 1000000000) (hs : s.size ≤ 1000000) :
    Calls Try.prog 62 #[.slice A n c, .string s] w (BB w0 R (n + (1 + s.size)) (bs ++ fileB s)) := by
  have K := Lib.hid H
  have hn0 := Lib.hid hn
  have hfin : Hid ((bs ++ [(s.size : Int) % 256]) ++ bytesOf s = bs ++ fileB s) := by show _ = _; unfold fileB; rw [put1, List.append_assoc]
  clear H hn
  go_enter Try.func62, Try.ntmps62
  go_wp2_with (at_builtin; refine wpList_append1N (E := U8) n hn0.out rfl (.tmp 5) (.tmp 9) 22 rfl 5 _ 1 1 Try.underlying22 infoB8 rfl (by decide) (by decide) rfl rfl rfl (by simp) K.out ((s.size : Int) % 256) (by omega) ?_)
  intro A5 c5 w5 K5
  have hl5 : Hid ((bs ++ [(s.size : Int) % 256]).length = n + 1) := by show _ = _; rw [List.length_append, hn0.out]; rfl
  replace K5 := Lib.hid K5
  clear K
  go_wp2_with (refine wpList_append_str (n + (1 + s.size)) rfl (.tmp 10) (.tmp 11) 22 9 rfl 5 _ Try.underlying22 Try.underlying9 infoB8 rfl rfl s rfl K5.out (by omega) (by rw [hl5.out]; omega) ?_)
  intro A6 c6 w6 K6
  have K7 : Hid (Hs w0 w6 (Ls U8 5 (.slice A6 (n + (1 + s.size)) c6) (bs ++ fileB s) :: R)) := by show Hs _ _ _; rw [← hfin.out]; exact (by simpa [bytesOf] using K6)
  replace hl5 := hl5
  clear K5 K6
  go_wp2_with fail
  go_ret
  exact ⟨A6, c6, rfl, by rw [List.length_append, fileB_len, hn0.out], K7.out⟩
set_option maxRecDepth 100000 in
set_option maxHeartbeats 1600000 in
theorem list61 (A : Option Addr) (n c : Nat) (bs : List Int) (lv : Value) (l : List (ByteArray)) (w w0 : World) (R : List HP) (H : Hs w0 w (Ls U8 5 (.slice A n c) bs :: R)) (hn : bs.length = n) (hr : ∀ w', Hs w0 w' R → RdL (Enc.str) w' lv l) (hl : l.length ≤ 65535) (hb : n ≤ 1000000)
    (hM : ∀ x ∈ l, x.size ≤ 32) :
    Calls Try.prog 61 #[.slice A n c, lv, .func (.func 62) #[] #[]] w (BB w0 R (bs ++ (put 2 (l.length : Int) ++ l.flatMap fileB)).length (bs ++ (put 2 (l.length : Int) ++ l.flatMap fileB))) := by
  obtain ⟨Al, cl, hv⟩ := (hr w H.tail).form
  subst hv
  obtain ⟨N, hN⟩ : ∃ N, l.length = N := ⟨_, rfl⟩
  have hcl := (hr w H.tail).caps.2
  rw [hN] at hr hl hcl ⊢
  obtain ⟨L, hL⟩ : ∃ L, bs ++ (put 2 (N : Int) ++ l.flatMap fileB) = L := ⟨_, rfl⟩
  rw [hL]
  replace hL := Lib.hid hL
  have hr0 := Lib.hid hr
  have hM0 := Lib.hid hM
  have K := Lib.hid H
  replace hN := Lib.hid hN
  have hn0 := Lib.hid hn
  clear H hr hM hn
  go_enter Try.func61, Try.ntmps61
  go_wp2_with fail
  refine (number40N n (.slice A n c) bs hn0.out (N : Int) ⟨by omega, by omega⟩ 2 (by omega) 2 rfl w w0 _ K.out (by omega)).mono ?_
  rintro e w1 ⟨A1, c1, rfl, h1, K1⟩
  have K2 := Lib.hid K1
  have h2 := Lib.hid h1
  clear K1 h1 K
  go_wp2_with fail
  go_loopg [0, 16] N (fun g lv iv wr => ∃ (i : Nat) (A : Option Addr) (m c : Nat) (cur : List Int), g + i = N ∧ iv = .int .i64 i ∧ lv = .slice A m c ∧ m ≤ n + 2 + i * 33 ∧ Hid (cur.length = m) ∧ Hid (cur = bs ++ (put 2 (N : Int) ++ (l.take i).flatMap fileB)) ∧ Hid (Hs w0 wr (Ls U8 5 (.slice A m c) cur :: R)))
  case atStart => exact ⟨0, A1, n + 2, c1, _, rfl, rfl, rfl, by omega, h2, Lib.hid (by rw [List.take_zero, List.flatMap_nil, List.append_nil]), K2⟩
  case round =>
    clear K2 h2
    obtain ⟨i, A3, m, c3, cur, hg, rfl, rfl, hm, hcm, hcur, K⟩ := hrel
    have hiN : i ≤ N := by omega
    replace hg := Lib.hid hg
    rcases Nat.lt_or_ge i N with hlt | hlt
    · have hi0 : (0 : Int) ≤ (i : Int) := by omega
      have hi1 : (i : Int) < (N : Int) := by omega
      have hwi : IntKind.i64.wrap ((i : Int) + 1) = ((i + 1 : Nat) : Int) := by rw [IntWalk.i64_in _ (by omega)]; omega
      obtain ⟨x, hx⟩ : ∃ x, l[i]? = some x := ⟨_, List.getElem?_eq_getElem (by have := hN.out; omega)⟩
      have hx2 := hM0.out x (List.mem_of_getElem? hx)
      obtain ⟨g, off, rfl⟩ := (hr0.out wr K.out.tail).some_ (by have := hN.out; omega)
      have hst : Hid (cur ++ fileB x = bs ++ (put 2 (N : Int) ++ (l.take (i + 1)).flatMap fileB)) := by
        show _ = _
        rw [hcur.out, take_one hx, List.flatMap_append, List.flatMap_cons, List.flatMap_nil, List.append_nil, List.append_assoc, List.append_assoc]
      have s0 : wr.cell? ⟨g, off + i, none⟩ = some (.string x) := by have := (hr0.out wr K.out.tail).cell hx 0 rfl; simpa [Enc.num, Enc.str] using this
      replace hx := Lib.hid hx
      go_wp2_with fail
      refine (name62 A3 m c3 cur x wr w0 R K.out hcm.out (by omega) (by omega)).mono ?_
      rintro e w5 ⟨A5, c5, rfl, h5, K5⟩
      have h6 := Lib.hid h5
      have K6 := Lib.hid K5
      have hlen : m + (1 + x.size) ≤ n + 2 + (i + 1) * 33 := by omega
      clear h5 K5 K hx2
      go_wp2_with fail
      go_roundg (N - (i + 1))
      case measure => have := hg.out; omega
      case rel => exact ⟨i + 1, A5, m + (1 + x.size), c5, _, by have := hg.out; omega, by go_num, rfl, hlen, h6, hst, K6⟩
    · have hi1 : decide ((i : Int) < (N : Int)) = false := by rw [decide_eq_false_iff_not]; omega
      have hi2 : decide (i < N) = false := by rw [decide_eq_false_iff_not]; omega
      have hfin : cur = L := by
        rw [hcur.out, List.take_of_length_le (by have := hN.out; omega)]
        exact hL.out
      rw [hfin] at hcm K
      clear hlt hfin
      go_wp2_with fail
      go_ret
      rw [hcm.out]
      exact ⟨A3, c3, rfl, hcm.out, K.out⟩
def longN (s : ByteArray) : Bool := decide (32 < s.size)
set_option maxHeartbeats 400000 in
theorem long60 (s : ByteArray) (w : World) : Calls Try.prog 60 #[.string s] w fun e w' => e = .returned (.bool (longN s)) ∧ w = w' := by
  obtain ⟨q, hq⟩ : ∃ q, longN s = q := ⟨_, rfl⟩
  rw [hq]
  unfold longN at hq
  have h1 : decide ((32 : Int) < (s.size : Int)) = q := by rw [← hq, decide_eq_decide]; omega
  go_enter Try.func60, Try.ntmps60
  go_wp2_with fail
  go_ret
  exact ⟨by first | rfl | (rw [← hq]; rfl), rfl⟩
theorem long60H (s : ByteArray) (w w0 : World) (R : List HP) (H : Hs w0 w R) : Calls Try.prog 60 #[.string s] w fun e w' => e = .returned (.bool (longN s)) ∧ Hs w0 w' R := by
  refine (long60 s w).mono ?_
  rintro e w' ⟨rfl, rfl⟩
  exact ⟨rfl, H⟩
def IxP (p : ByteArray → Bool) (l : List (ByteArray)) (w0 : World) (R : List HP) (e : Ending) (w' : World) : Prop := ∃ r : Int, e = .returned (.int .i64 r) ∧ decide (0 ≤ r) = l.any p ∧ Hs w0 w' R
set_option maxRecDepth 100000 in
set_option maxHeartbeats 1600000 in
theorem index77 (lv : Value) (l : List (ByteArray)) (w w0 : World) (R : List HP) (H : Hs w0 w R) (hr : ∀ w', Hs w0 w' R → RdL (Enc.str) w' lv l) (hl : l.length ≤ 1000000000) (hok : ∀ x ∈ l, True) :
    Calls Try.prog 77 #[lv, .func (.func 60) #[] #[]] w (IxP longN l w0 R) := by
  obtain ⟨Al, cl, hv⟩ := (hr w H).form
  subst hv
  obtain ⟨N, hN⟩ : ∃ N, l.length = N := ⟨_, rfl⟩
  have hcl := (hr w H).caps.2
  rw [hN] at hr hl hcl ⊢
  have hr0 := Lib.hid hr
  have hok0 := Lib.hid hok
  have K := Lib.hid H
  replace hN := Lib.hid hN
  clear H hr hok
  go_enter Try.func77, Try.ntmps77
  go_wp2_with fail
  go_loopg [8] N (fun g iv wr => ∃ i : Nat, g + i = N ∧ iv = .int .i64 i ∧ Hid ((l.take i).any longN = false) ∧ Hid (Hs w0 wr R))
  case atStart => exact ⟨0, rfl, rfl, Lib.hid (by rw [List.take_zero]; rfl), K⟩
  case round =>
    clear K
    obtain ⟨i, hg, rfl, hany, K⟩ := hrel
    have hiN : i ≤ N := by omega
    replace hg := Lib.hid hg
    rcases Nat.lt_or_ge i N with hlt | hlt
    · have hi0 : (0 : Int) ≤ (i : Int) := by omega
      have hi1 : (i : Int) < (N : Int) := by omega
      have hwi : IntKind.i64.wrap ((i : Int) + 1) = ((i + 1 : Nat) : Int) := by rw [IntWalk.i64_in _ (by omega)]; omega
      obtain ⟨x, hx⟩ : ∃ x, l[i]? = some x := ⟨_, List.getElem?_eq_getElem (by have := hN.out; omega)⟩
      have hxok := hok0.out x (List.mem_of_getElem? hx)
      obtain ⟨g, off, rfl⟩ := (hr0.out wr K.out).some_ (by have := hN.out; omega)
      have s0 : wr.cell? ⟨g, off + i, none⟩ = some (.string x) := by have := (hr0.out wr K.out).cell hx 0 rfl; simpa [Enc.num, Enc.str] using this
      replace hx := Lib.hid hx
      go_wp2_with fail
      refine (long60H x wr w0 R K.out).mono ?_
      obtain ⟨b, hb⟩ : ∃ b, longN x = b := ⟨_, rfl⟩
      rw [hb]
      rintro e w5 ⟨rfl, K5⟩
      replace K5 := Lib.hid K5
      clear K hxok
      cases b with
      | true =>
        have hyes : Hid (l.any longN = true) := by show _ = _; rw [List.any_eq_true]; exact ⟨x, List.mem_of_getElem? hx.out, hb⟩
        clear hb
        go_wp2_with fail
        go_ret
        exact ⟨_, rfl, by rw [hyes.out, decide_eq_true_eq]; omega, K5.out⟩
      | false =>
        have hno : Hid ((l.take (i + 1)).any longN = false) := by show _ = _; rw [take_one hx.out, List.any_append, hany.out, List.any_cons, hb]; rfl
        clear hb
        go_wp2_with fail
        go_roundg (N - (i + 1))
        case measure => have := hg.out; omega
        case rel => exact ⟨i + 1, by have := hg.out; omega, by go_num, hno, K5⟩
    · have hi1 : decide ((i : Int) < (N : Int)) = false := by rw [decide_eq_false_iff_not]; omega
      have hi2 : decide (i < N) = false := by rw [decide_eq_false_iff_not]; omega
      have hno : Hid (l.any longN = false) := by have := hany.out; rwa [List.take_of_length_le (by have := hN.out; omega)] at this
      clear hlt
      go_wp2_with fail
      go_ret
      exact ⟨-1, rfl, by rw [hno.out]; rfl, K.out⟩
set_option maxRecDepth 100000 in
set_option maxHeartbeats 400000 in
theorem contains59 (lv : Value) (l : List (ByteArray)) (w w0 : World) (R : List HP) (H : Hs w0 w R) (hr : ∀ w', Hs w0 w' R → RdL (Enc.str) w' lv l) (hl : l.length ≤ 1000000000) (hok : ∀ x ∈ l, True) :
    Calls Try.prog 59 #[lv, .func (.func 60) #[] #[]] w fun e w' => e = .returned (.bool (l.any longN)) ∧ Hs w0 w' R := by
  obtain ⟨Al, cl, hv⟩ := (hr w H).form
  subst hv
  have T := Lib.hid (index77 _ l w w0 R H hr hl hok)
  generalize l.length = N at *
  obtain ⟨q, hq⟩ : ∃ q, l.any longN = q := ⟨_, rfl⟩
  rw [hq]
  replace hq := Lib.hid hq
  clear H hr hok
  go_enter Try.func59, Try.ntmps59
  go_wp2_with fail
  refine T.out.mono ?_
  rintro e w1 ⟨r, rfl, hrq, K⟩
  rw [hq.out] at hrq
  replace K := Lib.hid K
  clear T
  go_wp2_with fail
  all_goals (go_ret; exact ⟨by first | rw [← hrq]; rfl | rfl, K.out⟩)
/-! ### manifests -/
def manB (mn me : Int) (l : List ByteArray) : List Int := put 8 mn ++ (put 8 me ++ (put 2 (l.length : Int) ++ l.flatMap fileB))
def mbad (l : List ByteArray) : Bool := decide (65535 < l.length) || l.any longN
def mout (mn me : Int) (l : List ByteArray) : List Int := if mbad l = true then [] else manB mn me l
def merr (l : List ByteArray) : Int := if mbad l = true then 12 else 0
theorem manB_byt (mn me : Int) (l : List ByteArray) : Byt (manB mn me l) := Byt.append (put_byt _ _) (Byt.append (put_byt _ _) (Byt.append (put_byt _ _) (fun x hx => by
  obtain ⟨y, _, hx⟩ := List.mem_flatMap.1 hx
  exact fileB_byt y x hx)))
theorem mout_byt (mn me : Int) (l : List ByteArray) : Byt (mout mn me l) := by unfold mout; split; exact Byt.nil; exact manB_byt _ _ _
set_option maxRecDepth 100000 in
set_option maxHeartbeats 4000000 in
theorem manifest29 (mn me : Int) (hmn : U64 mn) (hme : U64 me) (AF : Option Addr) (nF cF : Nat) (l : List ByteArray) (w w0 : World) (R : List HP) (H : Hs w0 w R) (hr : ∀ w', Hs w0 w' R → RdL Enc.str w' (.slice AF nF cF) l) (hl : l.length ≤ 1000000000) :
    Calls Try.prog 29 #[.agg #[.int .u64 mn, .int .u64 me, .slice AF nF cF]] w (BE w0 R (mout mn me l) (merr l)) := by
  have hnF := (hr w H).caps.1
  have hcF := (hr w H).caps.2
  obtain ⟨hn0, hn1⟩ := hmn
  obtain ⟨he0, he1⟩ := hme
  have hmn : Hid (0 ≤ mn ∧ mn < 18446744073709551616) := ⟨hn0, hn1⟩
  have hme : Hid (0 ≤ me ∧ me < 18446744073709551616) := ⟨he0, he1⟩
  have c8_ : Hid (((8 : Nat) : Int) = 8) := rfl
  have c2_ : Hid (((2 : Nat) : Int) = 2) := rfl
  have h8 : Hid (8 ≤ 8) := Nat.le_refl 8
  have h2 : Hid (2 ≤ 8) := by show _ ≤ _; omega
  obtain ⟨z, hz⟩ : ∃ z : Nat, 0 = z := ⟨_, rfl⟩
  have hz0 : Hid (z ≤ 1000000000) := by show _ ≤ _; omega
  have hz1 : Hid (z + 8 ≤ 1000000000) := by show _ ≤ _; omega
  have hz2 : Hid (z + 8 + 8 ≤ 1000000000) := by show _ ≤ _; omega
  have hz16 : z + 8 + 8 ≤ 16 := by omega
  have hL0 : Hid (([] : List Int).length = z) := hz
  replace hz := Lib.hid hz
  have T := Lib.hid (fun w R (H : Hs w0 w R) hr => contains59 (.slice AF nF cF) l w w0 R H hr hl (fun _ _ => trivial))
  have hr0 := Lib.hid hr
  have K := Lib.hid (H.alloc (.cells #[.int .u64 mn, .int .u64 me, .slice AF nF cF] 62))
  clear H hr
  by_cases hbig : 65535 < nF
  · have hb : mbad l = true := by unfold mbad; rw [decide_eq_true (by omega)]; rfl
    have e1 : decide ((65535 : Int) < (nF : Int)) = true := by rw [decide_eq_true_eq]; omega
    have e2 : decide (65535 < nF) = true := by rw [decide_eq_true_eq]; omega
    rw [show mout mn me l = [] from if_pos hb, show merr l = 12 from if_pos hb]
    clear hb hnF hbig
    go_enter Try.func29, Try.ntmps29
    go_upto_region 1 with (fail)
    generalize World.alloc _ _ = w1 at K ⊢
    generalize w.heap.size = p at K ⊢
    have q2 : w1.cell? ⟨p, 2, none⟩ = some (.slice AF nF cF) := K.out.cellOf 2 rfl
    go_wp2_with fail
    go_ret2
    exact ⟨none, 0, rfl, K.out.tail.ls_nil _ _⟩
  have e1 : decide ((65535 : Int) < (nF : Int)) = false := by rw [decide_eq_false_iff_not]; omega
  have e2 : decide (65535 < nF) = false := by rw [decide_eq_false_iff_not]; omega
  have hmb : mbad l = l.any longN := by unfold mbad; rw [decide_eq_false (by omega)]; rfl
  obtain ⟨b, hb⟩ : ∃ b, l.any longN = b := ⟨_, rfl⟩
  rw [hb] at hmb
  have hb0 := Lib.hid hb
  cases b with
  | true =>
    rw [show mout mn me l = [] from if_pos hmb, show merr l = 12 from if_pos hmb]
    clear hmb hnF hb hbig
    go_enter Try.func29, Try.ntmps29
    go_upto_region 1 with (fail)
    generalize World.alloc _ _ = w1 at K ⊢
    generalize w.heap.size = p at K ⊢
    have q2 : w1.cell? ⟨p, 2, none⟩ = some (.slice AF nF cF) := K.out.cellOf 2 rfl
    go_wp2_with fail
    refine (T.out w1 _ K.out (fun w' h => hr0.out w' h.tail)).mono ?_
    rw [hb0.out]
    rintro e w2 ⟨rfl, K2⟩
    replace K2 := Lib.hid K2
    clear K q2
    go_wp2_with fail
    go_ret2
    exact ⟨none, 0, rfl, K2.out.tail.ls_nil _ _⟩
  | false =>
    have hsm : Hid (∀ x ∈ l, x.size ≤ 32) := fun x hx => by
      have := List.any_eq_false.1 hb x hx
      unfold longN at this
      simpa using this
    have hnF0 := Lib.hid hnF
    have hlen : Hid (l.length ≤ 65535) := by show _ ≤ _; omega
    rw [show mout mn me l = manB mn me l from if_neg (by rw [hmb]; simp), show merr l = 0 from if_neg (by rw [hmb]; simp)]
    clear hmb hnF hb hbig
    go_enter Try.func29, Try.ntmps29
    go_upto_region 1 with (fail)
    generalize World.alloc _ _ = w1 at K ⊢
    generalize w.heap.size = p at K ⊢
    have q2 : w1.cell? ⟨p, 2, none⟩ = some (.slice AF nF cF) := K.out.cellOf 2 rfl
    go_wp2_with fail
    refine (T.out w1 _ K.out (fun w' h => hr0.out w' h.tail)).mono ?_
    rw [hb0.out]
    rintro e w2 ⟨rfl, K2⟩
    have KQ := Lib.hid (K2.ls_nil U8 5)
    clear K q2 K2
    have SS : Hid (∀ X w', Hs w0 w' (X :: Blk p (.cells #[.int .u64 mn, .int .u64 me, .slice AF nF cF] 62) :: R) → w'.cell? ⟨p, 0, none⟩ = some (.int .u64 mn) ∧ w'.cell? ⟨p, 1, none⟩ = some (.int .u64 me)) := fun X w' h => ⟨h.at1.cellOf 0 rfl, h.at1.cellOf 1 rfl⟩
    go_upto_region 3 with (fail)
    go_region_held3 (fun w' => w'.cell? ⟨p, 0, none⟩ = some (.int .u64 mn) ∧ w'.cell? ⟨p, 1, none⟩ = some (.int .u64 me))
      (first | with_reducible exact SS.out _ _ KQ.out.drew | with_reducible exact SS.out _ _ K_a | with_reducible exact SS.out _ _ K_b)
      (first
        | (go_at_call 40; (with_reducible refine (number40N (z) (.slice none 0 0) ([]) hL0.out (mn) hmn.out 8 h8.out 8 c8_ _ w0 _ KQ.out.drew hz0.out).mono ?_); rintro e w_a ⟨A_a, c_a, rfl, h_a, K_a⟩)
        | (go_at_call 40; (with_reducible refine (number40N (z + 8) (.slice A_a (z + 8) c_a) ([] ++ put 8 mn) h_a (me) hme.out 8 h8.out 8 c8_ _ w0 _ K_a hz1.out).mono ?_); rintro e w_b ⟨A_b, c_b, rfl, h_b, K_b⟩))
    have KF := Lib.hid K_b
    have h_z := Lib.hid h_b
    have q2 : w_b.cell? ⟨p, 2, none⟩ = some (.slice AF nF cF) := K_b.at1.cellOf 2 rfl
    clear K_a K_b h_a h_b SS KQ T
    have hfin : Hid ((([] ++ put 8 mn) ++ put 8 me) ++ (put 2 (l.length : Int) ++ l.flatMap fileB) = manB mn me l) := by show _ = _; unfold manB; simp
    go_wp2_with fail
    refine (list61 A_b (z + 8 + 8) c_b _ (.slice AF nF cF) l w_b w0 _ KF.out h_z.out (fun w' h => hr0.out w' h.tail) hlen.out (by omega) hsm.out).mono ?_
    rw [hfin.out]
    rintro e w5 ⟨A5, c5, rfl, h5, K5⟩
    replace K5 := Lib.hid K5
    clear KF q2 h5
    go_wp2_with fail
    go_ret2
    exact ⟨A5, c5, rfl, K5.out.at1.tail⟩
end Go.Proofs.Ytjdkpogkhecijaa

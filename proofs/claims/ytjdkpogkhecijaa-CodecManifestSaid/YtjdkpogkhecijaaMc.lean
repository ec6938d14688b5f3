import Derived.Test.YtjdkpogkhecijaaMb
import Derived.IntWalk
import Derived.Test.YtjdkpogkhecijaaProg
import Derived.Test.YtjdkpogkhecijaaLs
import Derived.Outline
import Derived.StillTailTactics
import Derived.Deep.DeepCutAuto
import Derived.Deep.CutBlock
import Derived.Deep.LoopGhost
import Derived.Deep.QuietTactic
import Derived.BigQuiet
import Derived.Deep.RegionHeld3
import Derived.Deep.RegionLaw
set_option linter.unusedVariables false
set_option linter.unusedSimpArgs false
namespace Go.Proofs.Ytjdkpogkhecijaa
open Go.RowKit
/-! ### manifests -/
def manB (mn me : Int) (l : List ByteArray) : List Int := put 8 mn ++ (put 8 me ++ (put 2 (l.length : Int) ++ l.flatMap fileB))
def mbad (l : List ByteArray) : Bool := decide (65535 < l.length) || l.any longN
def mout (mn me : Int) (l : List ByteArray) : List Int := if mbad l = true then [] else manB mn me l
def merr (l : List ByteArray) : Int := if mbad l = true then 12 else 0
theorem manB_byt (mn me : Int) (l : List ByteArray) : Byt (manB mn me l) := Byt.append (put_byt _ _) (Byt.append (put_byt _ _) (Byt.append (put_byt _ _) (fun x hx => by
  obtain ⟨y, _, hx⟩ := List.mem_flatMap.1 hx
  exact fileB_byt y x hx)))
theorem mout_byt (mn me : Int) (l : List ByteArray) : Byt (mout mn me l) := by unfold mout; split; exact Byt.nil; exact manB_byt _ _ _
set_option maxRecDepth 100000 in
set_option maxHeartbeats 4000000 in
theorem manifest29 (mn me : Int) (hmn : U64 mn) (hme : U64 me) (AF : Option Addr) (nF cF : Nat) (l : List ByteArray) (w w0 : World) (R : List HP) (H : Hs w0 w R) (hr : ∀ w', Hs w0 w' R → RdL Enc.str w' (.slice AF nF cF) l) (hl : l.length ≤ 1000000000) :
    Calls Try.prog 29 #[.agg #[.int .u64 mn, .int .u64 me, .slice AF nF cF]] w (BE w0 R (mout mn me l) (merr l)) := by
  have hnF := (hr w H).caps.1
  have hcF := (hr w H).caps.2
  obtain ⟨hn0, hn1⟩ := hmn
  obtain ⟨he0, he1⟩ := hme
  have hmn : Hid (0 ≤ mn ∧ mn < 18446744073709551616) := ⟨hn0, hn1⟩
  have hme : Hid (0 ≤ me ∧ me < 18446744073709551616) := ⟨he0, he1⟩
  have c8_ : Hid (((8 : Nat) : Int) = 8) := rfl
  have c2_ : Hid (((2 : Nat) : Int) = 2) := rfl
  have h8 : Hid (8 ≤ 8) := Nat.le_refl 8
  have h2 : Hid (2 ≤ 8) := by show _ ≤ _; omega
  obtain ⟨z, hz⟩ : ∃ z : Nat, 0 = z := ⟨_, rfl⟩
  have hz0 : Hid (z ≤ 1000000000) := by show _ ≤ _; omega
  have hz1 : Hid (z + 8 ≤ 1000000000) := by show _ ≤ _; omega
  have hz2 : Hid (z + 8 + 8 ≤ 1000000000) := by show _ ≤ _; omega
  have hz16 : z + 8 + 8 ≤ 16 := by omega
  have hL0 : Hid (([] : List Int).length = z) := hz
  replace hz := Lib.hid hz
  have T := Lib.hid (fun w R (H : Hs w0 w R) hr => contains59 (.slice AF nF cF) l w w0 R H hr hl (fun _ _ => trivial))
  have hr0 := Lib.hid hr
  have K := Lib.hid (H.alloc (.cells #[.int .u64 mn, .int .u64 me, .slice AF nF cF] 62))
  clear H hr
  by_cases hbig : 65535 < nF
  · have hb : mbad l = true := by unfold mbad; rw [decide_eq_true (by omega)]; rfl
    have e1 : decide ((65535 : Int) < (nF : Int)) = true := by rw [decide_eq_true_eq]; omega
    have e2 : decide (65535 < nF) = true := by rw [decide_eq_true_eq]; omega
    rw [show mout mn me l = [] from if_pos hb, show merr l = 12 from if_pos hb]
    clear hb hnF hbig
    go_enter Try.func29, Try.ntmps29
    go_upto_region 1 with (fail)
    generalize World.alloc _ _ = w1 at K ⊢
    generalize w.heap.size = p at K ⊢
    have q2 : w1.cell? ⟨p, 2, none⟩ = some (.slice AF nF cF) := K.out.cellOf 2 rfl
    go_wp2_with fail
    go_ret2
    exact ⟨none, 0, rfl, K.out.tail.ls_nil _ _⟩
  have e1 : decide ((65535 : Int) < (nF : Int)) = false := by rw [decide_eq_false_iff_not]; omega
  have e2 : decide (65535 < nF) = false := by rw [decide_eq_false_iff_not]; omega
  have hmb : mbad l = l.any longN := by unfold mbad; rw [decide_eq_false (by omega)]; rfl
  obtain ⟨b, hb⟩ : ∃ b, l.any longN = b := ⟨_, rfl⟩
  rw [hb] at hmb
  have hb0 := Lib.hid hb
  cases b with
  | true =>
    rw [show mout mn me l = [] from if_pos hmb, show merr l = 12 from if_pos hmb]
    clear hmb hnF hb hbig
    go_enter Try.func29, Try.ntmps29
    go_upto_region 1 with (fail)
    generalize World.alloc _ _ = w1 at K ⊢
    generalize w.heap.size = p at K ⊢
    have q2 : w1.cell? ⟨p, 2, none⟩ = some (.slice AF nF cF) := K.out.cellOf 2 rfl
    go_wp2_with fail
    refine (T.out w1 _ K.out (fun w' h => hr0.out w' h.tail)).mono ?_
    rw [hb0.out]
    rintro e w2 ⟨rfl, K2⟩
    replace K2 := Lib.hid K2
    clear K q2
    go_wp2_with fail
    go_ret2
    exact ⟨none, 0, rfl, K2.out.tail.ls_nil _ _⟩
  | false =>
    have hsm : Hid (∀ x ∈ l, x.size ≤ 32) := fun x hx => by
      have := List.any_eq_false.1 hb x hx
      unfold longN at this
      simpa using this
    have hnF0 := Lib.hid hnF
    have hlen : Hid (l.length ≤ 65535) := by show _ ≤ _; omega
    rw [show mout mn me l = manB mn me l from if_neg (by rw [hmb]; simp), show merr l = 0 from if_neg (by rw [hmb]; simp)]
    clear hmb hnF hb hbig
    go_enter Try.func29, Try.ntmps29
    go_upto_region 1 with (fail)
    generalize World.alloc _ _ = w1 at K ⊢
    generalize w.heap.size = p at K ⊢
    have q2 : w1.cell? ⟨p, 2, none⟩ = some (.slice AF nF cF) := K.out.cellOf 2 rfl
    go_wp2_with fail
    refine (T.out w1 _ K.out (fun w' h => hr0.out w' h.tail)).mono ?_
    rw [hb0.out]
    rintro e w2 ⟨rfl, K2⟩
    have KQ := Lib.hid (K2.ls_nil U8 5)
    clear K q2 K2
    have SS : Hid (∀ X w', Hs w0 w' (X :: Blk p (.cells #[.int .u64 mn, .int .u64 me, .slice AF nF cF] 62) :: R) → w'.cell? ⟨p, 0, none⟩ = some (.int .u64 mn) ∧ w'.cell? ⟨p, 1, none⟩ = some (.int .u64 me)) := fun X w' h => ⟨h.at1.cellOf 0 rfl, h.at1.cellOf 1 rfl⟩
    go_upto_region 3 with (fail)
    go_region_held3 (fun w' => w'.cell? ⟨p, 0, none⟩ = some (.int .u64 mn) ∧ w'.cell? ⟨p, 1, none⟩ = some (.int .u64 me))
      (first | with_reducible exact SS.out _ _ KQ.out.drew | with_reducible exact SS.out _ _ K_a | with_reducible exact SS.out _ _ K_b)
      (first
        | (go_at_call 40; (with_reducible refine (number40N (z) (.slice none 0 0) ([]) hL0.out (mn) hmn.out 8 h8.out 8 c8_ _ w0 _ KQ.out.drew hz0.out).mono ?_); rintro e w_a ⟨A_a, c_a, rfl, h_a, K_a⟩)
        | (go_at_call 40; (with_reducible refine (number40N (z + 8) (.slice A_a (z + 8) c_a) ([] ++ put 8 mn) h_a (me) hme.out 8 h8.out 8 c8_ _ w0 _ K_a hz1.out).mono ?_); rintro e w_b ⟨A_b, c_b, rfl, h_b, K_b⟩))
    have KF := Lib.hid K_b
    have h_z := Lib.hid h_b
    have q2 : w_b.cell? ⟨p, 2, none⟩ = some (.slice AF nF cF) := K_b.at1.cellOf 2 rfl
    clear K_a K_b h_a h_b SS KQ T
    have hfin : Hid ((([] ++ put 8 mn) ++ put 8 me) ++ (put 2 (l.length : Int) ++ l.flatMap fileB) = manB mn me l) := by show _ = _; unfold manB; simp
    go_wp2_with fail
    refine (list61 A_b (z + 8 + 8) c_b _ (.slice AF nF cF) l w_b w0 _ KF.out h_z.out (fun w' h => hr0.out w' h.tail) hlen.out (by omega) hsm.out).mono ?_
    rw [hfin.out]
    rintro e w5 ⟨A5, c5, rfl, h5, K5⟩
    replace K5 := Lib.hid K5
    clear KF q2 h5
    go_wp2_with fail
    go_ret2
    exact ⟨A5, c5, rfl, K5.out.at1.tail⟩
end Go.Proofs.Ytjdkpogkhecijaa

import Derived.Test.YtjdkpogkhecijaaSa
import Derived.Test.YtjdkpogkhecijaaKn
import Derived.Test.YtjdkpogkhecijaaMc
import Derived.Test.YtjdkpogkhecijaaMx
import Derived.Test.YtjdkpogkhecijaaOm
import Derived.IntWalk
import Derived.Test.YtjdkpogkhecijaaProg
import Derived.Test.YtjdkpogkhecijaaLs
import Derived.Outline
import Derived.StillTailTactics
import Derived.Deep.DeepCutAuto
import Derived.Deep.CutBlock
import Derived.Deep.LoopGhost
import Derived.Deep.QuietTactic
import Derived.BigQuiet
import Derived.Deep.RegionHeld3
import Derived.Deep.RegionLaw
set_option linter.unusedVariables false
set_option linter.unusedSimpArgs false
namespace Go.Proofs.Ytjdkpogkhecijaa
open Go.RowKit
theorem opM_man {mn me : Int} (h1 : U64 mn) (h2 : U64 me) {l : List ByteArray} (hb : mbad l = false) : opM (manB mn me l) = ((mn, me, l), 0) := by
  have hb2 := hb
  unfold mbad at hb2
  rw [Bool.or_eq_false_iff, decide_eq_false_iff_not] at hb2
  have p8 : (256 : Int) ^ 8 = 18446744073709551616 := by decide
  have a1 : 0 ≤ mn ∧ mn < 18446744073709551616 := h1
  have a2 : 0 ≤ me ∧ me < 18446744073709551616 := h2
  have e := good_mn.full (mn, me, l) [] ⟨⟨a1.1, by rw [p8]; exact a1.2⟩, ⟨a2.1, by rw [p8]; exact a2.2⟩, by show l.length < 65536; omega, fun s hs => by
    have h3 := hb2.2
    rw [List.any_eq_false] at h3
    have h4 := h3 s hs
    unfold longN at h4
    rw [decide_eq_true_eq] at h4
    omega⟩
  rw [List.append_nil] at e
  unfold opM
  rw [show rdMn (manB mn me l, false) = ((mn, me, l), ([], false)) from e]
  exact if_pos ⟨rfl, hb⟩
set_option maxRecDepth 100000 in
set_option maxHeartbeats 4000000 in
theorem codecmanifest_walk (mn me : Int) (A : Option Addr) (nF cF : Nat) (l : List ByteArray) (W : World) (h1 : U64 mn) (h2 : U64 me) (hr : RdL Enc.str W (.slice A nF cF) l) (hsz : ∀ x ∈ l, x.size ≤ 140737488351232) :
    Calls Try.prog 6 #[.agg #[.int .u64 mn, .int .u64 me, .slice A nF cF]] W fun e w' => e = .returned (.bool true) ∧ Below W.heap.size W w' := by
  have hnF := hr.caps.1
  have hcF := hr.caps.2
  have hr0 := Lib.hid hr
  have hsz0 := Lib.hid hsz
  have K := Lib.hid ((Hs.start W).alloc (.cells #[.int .u64 mn, .int .u64 me, .slice A nF cF] 62))
  replace hnF := Lib.hid hnF
  replace h1 := Lib.hid h1
  replace h2 := Lib.hid h2
  clear hr hsz
  go_enter Try.func6, Try.ntmps6
  go_upto_region 1 with (fail)
  generalize World.alloc _ _ = w1 at K ⊢
  generalize W.heap.size = p at K ⊢
  go_wp2_with fail
  refine (known10 w1 W _ K.out).mono ?_
  rintro e w2 ⟨rfl, K2⟩
  replace K2 := Lib.hid K2
  clear K
  go_wp2_with fail
  go_loopg [3, 4] nF (fun g nv iv wr => ∃ i S : Nat, g + i = nF ∧ nv = .int .i64 S ∧ iv = .int .i64 i ∧ S ≤ 140737488357233 ∧ i ≤ S ∧ Hid (Hs W wr [Blk p (.cells #[.int .u64 mn, .int .u64 me, .slice A nF cF] 62), Old W]))
  case atStart => exact ⟨0, 0, rfl, rfl, rfl, Nat.zero_le _, Nat.le_refl _, K2⟩
  case round =>
    clear K2
    obtain ⟨i, S, hg, rfl, rfl, hS, hiS, K⟩ := hrel
    have hiN : i ≤ nF := by omega
    replace hg := Lib.hid hg
    have q0 : wr.cell? ⟨p, 0, none⟩ = some (.int .u64 mn) := K.out.cellOf 0 rfl
    have q1 : wr.cell? ⟨p, 1, none⟩ = some (.int .u64 me) := K.out.cellOf 1 rfl
    have q2 : wr.cell? ⟨p, 2, none⟩ = some (.slice A nF cF) := K.out.cellOf 2 rfl
    rcases Nat.lt_or_ge 6000 S with hS6 | hS6
    · have e1 : decide ((6000 : Int) < (S : Int)) = true := by rw [decide_eq_true_eq]; omega
      have e2 : decide (6000 < S) = true := by rw [decide_eq_true_eq]; omega
      have e3 : decide ((S : Int) ≤ (6000 : Int)) = false := by rw [decide_eq_false_iff_not]; omega
      have e4 : decide (S ≤ 6000) = false := by rw [decide_eq_false_iff_not]; omega
      rcases Bool.eq_false_or_eq_true (decide ((i : Int) < (nF : Int))) with hd | hd
      all_goals
        have hd2 := hd
        rw [show decide ((i : Int) < (nF : Int)) = decide (i < nF) by rw [decide_eq_decide]; omega] at hd2
        go_wp2_with fail
        go_ret
        exact ⟨rfl, K.out.tail.under_old⟩
    have e1 : decide ((6000 : Int) < (S : Int)) = false := by rw [decide_eq_false_iff_not]; omega
    have e2 : decide (6000 < S) = false := by rw [decide_eq_false_iff_not]; omega
    have e3 : decide ((S : Int) ≤ (6000 : Int)) = true := by rw [decide_eq_true_eq]; omega
    have e4 : decide (S ≤ 6000) = true := by rw [decide_eq_true_eq]; omega
    rcases Nat.lt_or_ge i nF with hlt | hlt
    · have hi0 : (0 : Int) ≤ (i : Int) := by omega
      have hi1 : (i : Int) < (nF : Int) := by omega
      have hd1 : decide ((i : Int) < (nF : Int)) = true := by rw [decide_eq_true_eq]; omega
      have hd2 : decide (i < nF) = true := by rw [decide_eq_true_eq]; omega
      have hwi : IntKind.i64.wrap ((i : Int) + 1) = ((i + 1 : Nat) : Int) := by rw [IntWalk.i64_in _ (by omega)]; omega
      have hws : IntKind.i64.wrap ((S : Int) + 1) = ((S + 1 : Nat) : Int) := by rw [IntWalk.i64_in _ (by omega)]; omega
      obtain ⟨x, hx⟩ : ∃ x, l[i]? = some x := ⟨_, List.getElem?_eq_getElem (by have := hnF.out; omega)⟩
      have hxs := hsz0.out x (List.mem_of_getElem? hx)
      obtain ⟨T, hT⟩ : ∃ T, T = S + 1 + x.size := ⟨_, rfl⟩
      have hwt : IntKind.i64.wrap ((S : Int) + 1 + (x.size : Int)) = (T : Int) := by rw [IntWalk.i64_in _ (by omega)]; omega
      have hwt2 : IntKind.i64.wrap (((S + 1 : Nat) : Int) + (x.size : Int)) = (T : Int) := by rw [IntWalk.i64_in _ (by omega)]; omega
      have hT1 : T ≤ 140737488357233 := by omega
      have hT2 : i + 1 ≤ T := by omega
      obtain ⟨g, off, rfl⟩ := (hr0.out.old K.out.tail).some_ (by have := hnF.out; omega)
      have s0 : wr.cell? ⟨g, off + i, none⟩ = some (.string x) := by have := (hr0.out.old K.out.tail).cell hx 0 rfl; simpa [Enc.str] using this
      replace hx := Lib.hid hx
      replace hT := Lib.hid hT
      go_wp2_with fail
      go_roundg (nF - (i + 1))
      case measure => have := hg.out; omega
      case rel => exact ⟨i + 1, T, by have := hg.out; omega, by go_num, by go_num, hT1, hT2, K⟩
    · have hd1 : decide ((i : Int) < (nF : Int)) = false := by rw [decide_eq_false_iff_not]; omega
      have hd2 : decide (i < nF) = false := by rw [decide_eq_false_iff_not]; omega
      have hll : l.length ≤ 1000000000 := by have := hnF.out; omega
      have hll0 := Lib.hid hll
      clear hlt hS hiS hll
      cases hmb : mbad l with
      | true =>
        have hL : mout mn me l = [] := if_pos hmb
        have hE : merr l = 12 := if_pos hmb
        have T1 := Lib.hid (fun w w0 R H hr => manifest29 mn me h1.out h2.out A nF cF l w w0 R H hr hll0.out)
        have T2 := Lib.hid (fun w w0 R H hr => rmanifest30 mn me h1.out h2.out A nF cF l w w0 R H hr hll0.out)
        rw [hL, hE] at T1 T2
        clear hL hE hmb
        go_wp2_with fail
        refine (T1.out wr W _ K.out (fun w' h => hr0.out.old h.tail)).mono ?_
        rintro e w3 ⟨A3, c3, rfl, K3⟩
        have c0 : w3.cell? ⟨p, 0, none⟩ = some (.int .u64 mn) := K3.at1.cellOf 0 rfl
        have c1 : w3.cell? ⟨p, 1, none⟩ = some (.int .u64 me) := K3.at1.cellOf 1 rfl
        have c2 : w3.cell? ⟨p, 2, none⟩ = some (.slice A nF cF) := K3.at1.cellOf 2 rfl
        replace K3 := Lib.hid K3
        clear K q0 q1 q2
        go_wp2_with fail
        refine (T2.out w3 W _ K3.out (fun w' h => hr0.out.old h.tail.tail)).mono ?_
        rintro e w4 ⟨A4, c4, rfl, K4⟩
        replace K4 := Lib.hid K4
        clear K3 c0 c1 c2
        go_wp2_with fail
        refine (eqsame12 _ _ [] w4 W _ K4.out K4.out.at1.ls_rd K4.out.ls_rd).mono ?_
        rintro e w5 ⟨rfl, K5⟩
        replace K5 := Lib.hid K5
        go_wp2_with fail
        go_ret
        exact ⟨rfl, K5.out.tail.tail.tail.under_old⟩
      | false =>
        have hL : mout mn me l = manB mn me l := if_neg (by rw [hmb]; simp)
        have hE : merr l = 0 := if_neg (by rw [hmb]; simp)
        have hop := opM_man h1.out h2.out hmb
        have T1 := Lib.hid (fun w w0 R H hr => manifest29 mn me h1.out h2.out A nF cF l w w0 R H hr hll0.out)
        have T2 := Lib.hid (fun w w0 R H hr => rmanifest30 mn me h1.out h2.out A nF cF l w w0 R H hr hll0.out)
        have T3 := Lib.hid (fun v w w0 R H hr => openM31 v (manB mn me l) w w0 R H hr (manB_byt mn me l))
        rw [hL, hE] at T1 T2
        rw [hop] at T3
        generalize manB mn me l = L at T1 T2 T3
        clear hL hE hmb hop
        go_wp2_with fail
        refine (T1.out wr W _ K.out (fun w' h => hr0.out.old h.tail)).mono ?_
        rintro e w3 ⟨A3, c3, rfl, K3⟩
        have c0 : w3.cell? ⟨p, 0, none⟩ = some (.int .u64 mn) := K3.at1.cellOf 0 rfl
        have c1 : w3.cell? ⟨p, 1, none⟩ = some (.int .u64 me) := K3.at1.cellOf 1 rfl
        have c2 : w3.cell? ⟨p, 2, none⟩ = some (.slice A nF cF) := K3.at1.cellOf 2 rfl
        obtain ⟨nl, hnl⟩ : ∃ n, L.length = n := ⟨_, rfl⟩
        rw [hnl] at K3 ⊢
        replace hnl := Lib.hid hnl
        replace K3 := Lib.hid K3
        clear K q0 q1 q2
        go_wp2_with fail
        refine (T2.out w3 W _ K3.out (fun w' h => hr0.out.old h.tail.tail)).mono ?_
        rintro e w4 ⟨A4, c4, rfl, K4⟩
        rw [hnl.out] at K4 ⊢
        replace K4 := Lib.hid K4
        clear K3 c0 c1 c2
        go_wp2_with fail
        refine (eqsame12 _ _ L w4 W _ K4.out K4.out.at1.ls_rd K4.out.ls_rd).mono ?_
        rintro e w5 ⟨rfl, K5⟩
        replace K5 := Lib.hid K5
        clear K4
        go_wp2_with fail
        refine (T3.out (.slice A3 nl c3) w5 W _ K5.out (fun w' h => h.at1.ls_rd)).mono ?_
        rintro e w6 ⟨A6, c6, rfl, K6⟩
        dsimp only at K6 ⊢
        rw [← hnF.out] at K6 ⊢
        have K7 := Lib.hid (K6.alloc (.cells #[.int .u64 mn, .int .u64 me, .slice A6 nF c6] 62))
        clear K5 K6
        go_upto_region 17 with (fail)
        generalize World.alloc _ _ = w7 at K7 ⊢
        generalize w6.heap.size = q at K7 ⊢
        have c0 : w7.cell? ⟨p, 0, none⟩ = some (.int .u64 mn) := K7.out.tail.tail.tail.tail.cellOf 0 rfl
        have c1 : w7.cell? ⟨p, 1, none⟩ = some (.int .u64 me) := K7.out.tail.tail.tail.tail.cellOf 1 rfl
        have c2 : w7.cell? ⟨p, 2, none⟩ = some (.slice A nF cF) := K7.out.tail.tail.tail.tail.cellOf 2 rfl
        have d0 : w7.cell? ⟨q, 0, none⟩ = some (.int .u64 mn) := K7.out.cellOf 0 rfl
        have d1 : w7.cell? ⟨q, 1, none⟩ = some (.int .u64 me) := K7.out.cellOf 1 rfl
        have d2 : w7.cell? ⟨q, 2, none⟩ = some (.slice A6 nF c6) := K7.out.cellOf 2 rfl
        go_wp2_with fail
        refine (same32 mn me A6 A nF c6 cF l w7 W _ K7.out (fun w' h => h.at1.ls_rd) (fun w' h => hr0.out.old h.tail.tail.tail.tail.tail) hll0.out).mono ?_
        rintro e w8 ⟨rfl, K8⟩
        replace K8 := Lib.hid K8
        go_wp2_with fail
        go_ret
        exact ⟨rfl, K8.out.tail.tail.tail.tail.tail.under_old⟩
def manc (r : Int × Int × Slc) : Array Value := #[.int .u64 r.1, .int .u64 r.2.1, .slice r.2.2.1 r.2.2.2.1 r.2.2.2.2]
theorem codecmanifest_walk2 (r : Int × Int × Slc) (W : World) (h : U64 r.1 ∧ U64 r.2.1 ∧ ∃ l, RdL Enc.str W (.slice r.2.2.1 r.2.2.2.1 r.2.2.2.2) l ∧ ∀ x ∈ l, x.size ≤ 140737488351232) :
    Calls Try.prog 6 #[.agg (manc r)] W fun e w' => e = .returned (.bool true) ∧ Below W.heap.size W w' := by
  obtain ⟨h1, h2, l, hr, hl⟩ := h
  exact codecmanifest_walk _ _ _ _ _ l W h1 h2 hr hl
end Go.Proofs.Ytjdkpogkhecijaa

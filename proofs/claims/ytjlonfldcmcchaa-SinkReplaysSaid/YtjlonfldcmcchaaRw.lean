import Derived.Test.YtjlonfldcmcchaaRp
import Derived.Laws.MakeOwn
import Derived.Test.YtjlonfldcmcchaaProg
import Derived.Test.YtjlonfldcmcchaaLs
import Derived.Outline
import Derived.StillTailTactics
import Derived.Deep.DeepCutAuto
import Derived.Deep.CutBlock
import Derived.Deep.LoopGhost
import Derived.Deep.QuietTactic
import Derived.BigQuiet
import Derived.Deep.RegionHeld3
import Derived.Deep.RegionLaw
set_option linter.unusedVariables false
set_option linter.unusedSimpArgs false
namespace Go.Proofs.Ytjlonfldcmcchaa
open Go.RowKit
set_option maxRecDepth 100000 in
theorem sinkreplays_walk (n0 : Int) (A : Option Addr) (M cM : Nat) (xs : List Int) (w : World) (hn : (Lit.int .i64 n0).wf = true) (hr : RdL (Enc.num .u8) w (.slice A M cM) xs) (hok : ∀ x ∈ xs, (Lit.int .u8 x).wf = true) :
    Calls Try.prog 6 #[.int .i64 n0, .slice A M cM] w fun e w' => e = .returned (.bool true) ∧ Below w.heap.size w w' := by
  clear hn
  obtain ⟨m, hm⟩ : ∃ m : Nat, n0 % 30 = (m : Int) := ⟨(n0 % 30).toNat, by omega⟩
  have hm3 : m < 30 := by omega
  have hm := Lib.hid hm
  obtain ⟨N, hN⟩ : ∃ N, N = m + 1 := ⟨_, rfl⟩
  have hw1 : IntKind.i64.wrap (1 + (m : Int)) = (N : Int) := by rw [IntWalk.i64_in _ (by omega)]; omega
  have hw2 : IntKind.i64.wrap ((N : Int) + 1) = (N : Int) + 1 := IntWalk.i64_in _ (by omega)
  have hN1 : 1 ≤ N ∧ N ≤ 30 := by omega
  clear hN hm3
  have hcap := hr.caps.2
  have hMl := Lib.hid hr.caps.1
  replace hr := Lib.hid hr
  have hmk := run_make_row' (P := Try.prog) 53 2 (.int .i64 0) 8 Try.underlying53 info2 rfl .i64 .i64 (N + 1) (by omega) (by omega)
  replace hmk : ∀ w, (Instr.makeSlice 53 (.int .i64 ((N : Int) + 1)) (.int .i64 ((N : Int) + 1))).run Try.prog w = .ok (.slice (some ⟨w.heap.size, 0, none⟩) (N + 1) (N + 1)) (w.alloc (.cells (madeCells #[.int .i64 0] (N + 1)) 2)) := hmk
  rcases (show (20 : Int) < (M : Int) ∨ (M : Int) ≤ 20 by omega) with hM | hM
  · go_enter Try.func6, Try.ntmps6
    go_wp2_with fail
    refine (known8 w w _ (Hs.start w)).mono ?_
    rintro e w1 ⟨rfl, H⟩
    go_wp2_with fail
    refine (place26 n0 30 _ (by omega) (by omega)).mono ?_
    rw [hm.out]
    rintro e w2 ⟨rfl, rfl⟩
    go_wp2_with fail
    go_ret
    exact ⟨rfl, below_of H⟩
  · go_enter Try.func6, Try.ntmps6
    go_wp2_with fail
    refine (known8 w w _ (Hs.start w)).mono ?_
    rintro e w1 ⟨rfl, H⟩
    go_wp2_with fail
    refine (place26 n0 30 _ (by omega) (by omega)).mono ?_
    rw [hm.out]
    rintro e w2 ⟨rfl, rfl⟩
    go_wp2_with fail
    refine (new10 _ w _ H).mono ?_
    rintro e w1 ⟨p, rfl, H⟩
    rw [One.none 3] at H
    go_wp2_with fail
    have H2 : Hid (Hs w (w1.alloc (.cells (madeCells #[.int .i64 0] (N + 1)) 2)) [Ls (Enc.num .i64) 2 (.slice (some ⟨w1.heap.size, 0, none⟩) (N + 1) (N + 1)) (List.replicate (N + 1) 0), Log p (RL 0 0 (List.replicate (N + 1) 0)), Old w]) := H.ls_made 2 0 (.int .i64 0) rfl (N + 1) (by omega)
    clear H hmk
    generalize w1.heap.size = g at *
    go_loopg [6, 7, 8] (M * 40 + N) (fun k va vf vc wr => ∃ (a f c : Nat) (L : List Int), va = .int .i64 a ∧ vf = .int .i64 f ∧ vc = .int .i64 c ∧ k = (M - f) * 40 + (N - a) ∧ f ≤ M ∧ c ≤ a ∧ a ≤ N ∧ Hid (L.length = N + 1) ∧ Hid (Hs w wr [Ls (Enc.num .i64) 2 (.slice (some ⟨g, 0, none⟩) (N + 1) (N + 1)) L, Log p (RL a c L), Old w]))
    case atStart => exact ⟨0, 0, 0, _, rfl, rfl, rfl, by omega, by omega, by omega, by omega, by show _ = _; simp, H2⟩
    case round =>
      clear H2
      obtain ⟨a, f, c, L, rfl, rfl, rfl, hk, hf, hc, ha, hL, H⟩ := hrel
      replace hk := Lib.hid hk
      rcases Nat.lt_or_ge a N with haN | haN
      · have haN1 : (a : Int) < (N : Int) := by omega
        obtain ⟨b, hb⟩ : ∃ b, b = a + 1 := ⟨_, rfl⟩
        have hb1 : IntKind.i64.wrap ((a : Int) + 1) = (b : Int) := by rw [IntWalk.i64_in _ (by omega)]; omega
        have hbN : b ≤ N := by omega
        have hcb : c < b := by omega
        replace hb := Lib.hid hb
        have hf1 : IntKind.i64.wrap (1000 * (f : Int)) = 1000 * (f : Int) := IntWalk.i64_in _ (by omega)
        obtain ⟨v, hv⟩ : ∃ v, 1000 * (f : Int) + (b : Int) = v := ⟨_, rfl⟩
        have hv1 : IntKind.i64.wrap (1000 * (f : Int) + (b : Int)) = v := by rw [IntWalk.i64_in _ (by omega)]; exact hv
        clear hv
        have hu1 : IntKind.u64.wrap (b : Int) = (b : Int) := IntWalk.u64_in _ (by omega)
        have hidx : (b : Int) < (N : Int) + 1 := by omega
        have hidx0 : (0 : Int) ≤ (b : Int) := by omega
        have f0 : wr.frozen? ⟨g, b, none⟩ = false := H.out.ls_frozen b
        have c0 : wr.cell? ⟨g, b, none⟩ = some (.int .i64 (L[b]'(by have := hL.out; omega))) := by
          have := H.out.ls_rd.cell (i := b) (List.getElem?_eq_getElem (by have := hL.out; omega)) 0 rfl
          simpa [Enc.num] using this
        have H1 := H.out.ls_set0 rfl b (by omega) v (.int .i64 v) rfl
        have hL1 : Hid ((L.set b v)[b]? = some v) := by show _ = _; rw [List.getElem?_set_self (by have := hL.out; omega)]
        have c1 : (wr.setCell ⟨g, b, none⟩ (.int .i64 v)).cell? ⟨g, b, none⟩ = some (.int .i64 v) := by
          have := H1.ls_rd.cell (i := b) hL1.out 0 rfl
          simpa [Enc.num] using this
        replace H1 := Lib.hid H1
        clear H
        go_wp2_with fail
        have hsz : wr.heap.size = (wr.setCell ⟨g, b, none⟩ (.int .i64 v)).heap.size := by simp [World.setCell]
        rw [hsz]
        clear hsz c1 c0 f0
        generalize World.setCell wr _ _ = w1 at H1 ⊢
        have H2 := H1.out.ls_lit ERec 39 [((b : Int), 0, v)] _ rfl 1 rfl (by omega)
        refine (stage_ok p 3 b _ [((b : Int), 0, v)] (RL a c L) _ w _ H2.at2 (fun w' h => h.ls_rd) (by simp) (RL.ok a c L hc (by omega)) (by omega) (by rw [RL.pt, T.top]; have := hb.out; omega)).mono ?_
        rw [RL.putb a b c L v hb.out hc (by have := hL.out; omega)]
        rintro e w2 ⟨rfl, H3⟩
        clear H1 H2
        replace H3 := Lib.hid H3.at1.tail.at1
        have hL2 : Hid ((L.set b v).length = N + 1) := by show _ = _; rw [List.length_set]; exact hL.out
        generalize L.set b v = L1 at *
        clear hL hL1
        by_cases hfM : f < M
        · have hfM1 : (f : Int) < (M : Int) := by omega
          cases h3 : ((b : Int) % 3 == 2) with
          | true =>
            replace h3 := Lib.hid h3
            have h3' := h3.out
            obtain ⟨x, hx⟩ : ∃ x, xs[f]? = some x := ⟨_, List.getElem?_eq_getElem (by have := hMl.out; omega)⟩
            obtain ⟨hx0, hx1⟩ := u8_in (hok x (List.mem_of_getElem? hx))
            have hrd := hr.out.old H3.out.at2
            obtain ⟨g2, off2, rfl⟩ := hrd.some_ (by have := (List.getElem?_eq_some_iff.1 hx).1; omega)
            have cx : w2.cell? ⟨g2, off2 + f, none⟩ = some (.int .u8 x) := by have := hrd.cell hx 0 rfl; simpa [Enc.num] using this
            have hxw : IntKind.i64.wrap x = x := IntWalk.i64_in _ (by omega)
            obtain ⟨d, hd⟩ : ∃ d, d = b - c := ⟨_, rfl⟩
            have hd1 : IntKind.i64.wrap ((b : Int) - (c : Int)) = (d : Int) := by rw [IntWalk.i64_in _ (by omega)]; omega
            have hd2 : IntKind.i64.wrap ((d : Int) + 1) = (d : Int) + 1 := IntWalk.i64_in _ (by omega)
            obtain ⟨r, hr1, hr2⟩ : ∃ r : Nat, x.tmod ((d : Int) + 1) = (r : Int) ∧ r ≤ d := by
              have e1 := Int.tmod_nonneg ((d : Int) + 1) hx0
              have e2 := Int.tmod_lt_of_pos x (show (0 : Int) < (d : Int) + 1 by omega)
              exact ⟨(x.tmod ((d : Int) + 1)).toNat, by omega, by omega⟩
            have hdz : ((d : Int) + 1 == 0) = false := by rw [beq_eq_false_iff_ne]; omega
            have hdz2 : (d : Int) + 1 ≠ 0 := by omega
            obtain ⟨q, hq⟩ : ∃ q, q = c + r := ⟨_, rfl⟩
            have hq1 : IntKind.i64.wrap ((c : Int) + (r : Int)) = (q : Int) := by rw [IntWalk.i64_in _ (by omega)]; omega
            have hqb : q ≤ b := by omega
            obtain ⟨f', hf'⟩ : ∃ f', f' = f + 1 := ⟨_, rfl⟩
            have hf2 : IntKind.i64.wrap ((f : Int) + 1) = (f' : Int) := by rw [IntWalk.i64_in _ (by omega)]; omega
            have hf0 : (0 : Int) ≤ (f : Int) := by omega
            replace hf' := Lib.hid hf'
            clear hd
            have hu2 : IntKind.u64.wrap (q : Int) = (q : Int) := IntWalk.u64_in _ (by omega)
            clear hfM
            rcases (show q = c ∨ c < q by omega) with rfl | hcq
            · clear hq
              go_wp2_with fail
              refine (abort15 p 3 q (RL b q L1) _ w _ H3.out.at1 (RL.ok b q L1 (by omega) (by omega))).mono ?_
              rw [RL.abort b q L1 hqb]
              rintro e w4 ⟨rfl, H5⟩
              replace H5 := Lib.hid H5.at1
              clear H3 hrd cx
              go_wp2_with fail
              go_roundg ((M - f') * 40 + (N - q))
              case measure => have := hk.out; have := hf'.out; omega
              case rel => exact ⟨q, f', q, L1, rfl, rfl, rfl, rfl, by have := hf'.out; omega, by omega, by omega, hL2, H5⟩
            · replace hq := Lib.hid hq
              have hcq1 : (c : Int) < (q : Int) := by omega
              have hmx : max (c : Int) (q : Int) = (q : Int) := by omega
              go_wp2_with fail
              refine (commit_go p 3 q (RL b c L1) _ w _ H3.out.at1 (RL.ok b c L1 (by omega) (by omega)) (by rw [RL.pt, T.last b c L1 (by omega)]; omega) (by rw [RL.pt]; exact T.any b q L1 (by omega) hqb) (RL.few b c L1 (by omega) (by omega))).mono ?_
              rw [RL.commit b c q L1 (by omega) hqb]
              rintro e w3 ⟨rfl, H4⟩
              clear cx H3 hrd
              replace H4 := Lib.hid H4
              go_wp2_with fail
              refine (abort15 p 3 q (RL b q L1) _ w _ H4.out (RL.ok b q L1 (by omega) (by omega))).mono ?_
              rw [RL.abort b q L1 hqb]
              rintro e w4 ⟨rfl, H5⟩
              replace H5 := Lib.hid H5.at1
              clear H4
              go_wp2_with fail
              go_roundg ((M - f') * 40 + (N - q))
              case measure => have := hk.out; have := hf'.out; omega
              case rel => exact ⟨q, f', q, L1, rfl, rfl, rfl, rfl, by have := hf'.out; omega, by omega, by omega, hL2, H5⟩
          | false =>
            replace h3 := Lib.hid h3
            have h3' := h3.out
            clear hfM
            go_wp2_with fail
            go_roundg ((M - f) * 40 + (N - b))
            case measure => have := hk.out; have := hb.out; omega
            case rel => exact ⟨b, f, c, L1, rfl, rfl, rfl, rfl, hf, by omega, by omega, hL2, H3⟩
        · obtain rfl : f = M := by omega
          clear hfM
          go_wp2_with fail
          go_roundg ((f - f) * 40 + (N - b))
          case measure => have := hk.out; have := hb.out; omega
          case rel => exact ⟨b, f, c, L1, rfl, rfl, rfl, rfl, hf, by omega, by omega, hL2, H3⟩
      · obtain rfl : a = N := by omega
        have hu1 : IntKind.u64.wrap (a : Int) = (a : Int) := IntWalk.u64_in _ (by omega)
        have hcom : Hid (Calls Try.prog 13 #[.pointer (some ⟨p, 0, none⟩), .int .i64 3, .int .u64 a] wr fun e w' => e = .returned (.int .i64 0) ∧ Hs w w' [Log p (RL a a L), Ls (Enc.num .i64) 2 (.slice (some ⟨g, 0, none⟩) (a + 1) (a + 1)) L, Old w]) := by
          rcases (show c = a ∨ c < a by omega) with rfl | hca
          · exact commit_old p 3 c (RL c c L) _ w _ H.out.at1 (RL.ok c c L (by omega) (by omega)) (by rw [RL.pt, T.last c c L (by omega)]; omega)
          · have := commit_go p 3 a (RL a c L) _ w _ H.out.at1 (RL.ok a c L (by omega) (by omega)) (by rw [RL.pt, T.last a c L (by omega)]; omega) (by rw [RL.pt]; exact T.any a a L (by omega) (by omega)) (RL.few a c L (by omega) (by omega))
            rwa [RL.commit a c a L (by omega) (by omega)] at this
        clear hk haN H
        go_wp2_with fail
        refine hcom.out.mono ?_
        rintro e w3 ⟨rfl, H⟩
        clear hcom
        go_wp2_with fail
        refine (all18 p _ _ w _ H (by rw [RL.all, Rc.length]; omega)).mono ?_
        rw [RL.all, Rc.length]
        rintro e w4 ⟨A1, k1, rfl, H1⟩
        clear H
        have hcap1 := H1.ls_rd.caps.2
        obtain ⟨g1, o1, rfl⟩ := H1.ls_rd.some_ (by rw [Rc.length]; omega)
        replace H1 := Lib.hid H1
        go_wp2_with fail
        go_loopg [12] a (fun k i wr => ∃ (j q : Nat), k + j = a ∧ i = .int .i64 j ∧ wr = w4.drewN q)
        case atStart => exact ⟨0, 0, rfl, rfl, rfl⟩
        case round =>
          obtain ⟨j, q, hk, rfl, rfl⟩ := hrel
          have hja : j ≤ a := by omega
          replace hk := Lib.hid hk
          rcases Nat.lt_or_ge j a with hj | hj
          · obtain ⟨b, hb⟩ : ∃ b, b = j + 1 := ⟨_, rfl⟩
            have hb1 : IntKind.i64.wrap ((j : Int) + 1) = (b : Int) := by rw [IntWalk.i64_in _ (by omega)]; omega
            have hba : (b : Int) < (a : Int) + 1 := by omega
            have hb0 : (0 : Int) ≤ (b : Int) := by omega
            have hj0 : (0 : Int) ≤ (j : Int) := by omega
            have hj1 : (j : Int) < (a : Int) := by omega
            have hx : (Rc a L)[j]? = some ((b : Int), 0, L[b]'(by have := hL.out; omega)) := by
              subst hb
              simp [Rc, hj, List.getD, List.getElem?_eq_getElem (show j + 1 < L.length by have := hL.out; omega)]
            have s0 : w4.cell? ⟨g1, o1 + j * 3, none⟩ = some (.int .i64 (b : Int)) := H1.out.ls_rd.cell hx 0 rfl
            have s2 : w4.cell? ⟨g1, o1 + j * 3 + 2, none⟩ = some (.int .i64 (L[b]'(by have := hL.out; omega))) := H1.out.ls_rd.cell hx 2 rfl
            have l0 : w4.cell? ⟨g, b, none⟩ = some (.int .i64 (L[b]'(by have := hL.out; omega))) := by
              have := H1.out.at2.ls_rd.cell (i := b) (List.getElem?_eq_getElem (by have := hL.out; omega)) 0 rfl
              simpa [Enc.num] using this
            clear hx
            generalize L[b]'_ = v at *
            have hbe : ((b : Int) != (b : Int)) = false := by simp
            replace hb := Lib.hid hb
            go_wp2_with fail
            go_quiet (fail)
            go_wp2_with fail
            go_roundg (a - (j + 1))
            case measure => have := hk.out; omega
            case rel => exact ⟨b, _, by have := hk.out; have := hb.out; omega, rfl, by first | rfl | exact World.drewN_drewN ..⟩
          · obtain rfl : j = a := by omega
            go_wp2_with fail
            go_ret
            exact ⟨rfl, below_of (H1.out.drewN q).tail.tail.tail⟩
end Go.Proofs.Ytjlonfldcmcchaa

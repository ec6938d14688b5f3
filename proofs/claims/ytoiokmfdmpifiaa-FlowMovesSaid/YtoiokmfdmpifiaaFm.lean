import Derived.Test.YtoiokmfdmpifiaaKn
import Derived.Test.YtoiokmfdmpifiaaCs
import Derived.Laws.BytesArg
import Derived.Test.YtoiokmfdmpifiaaProg
import Derived.Test.YtoiokmfdmpifiaaLs
import Derived.Outline
import Derived.StillTailTactics
import Derived.Deep.DeepCutAuto
import Derived.Deep.CutBlock
import Derived.Deep.LoopGhost
import Derived.Deep.QuietTactic
import Derived.BigQuiet
import Derived.Deep.RegionHeld3
import Derived.Deep.RegionLaw
set_option linter.unusedVariables false
set_option linter.unusedSimpArgs false
namespace Go.Proofs.Ytoiokmfdmpifiaa
open Go.RowKit
theorem below_of {w w' : World} {R : List HP} (H : Hs w w' (Old w :: R)) : Below w.heap.size w w' := H.under_old
theorem Ch.dlv1 {α : Type} (cr gr e q o : Int) (x : α) (b : List α) (h : 1 ≤ cr) : Ch.dlv ⟨cr, b, e, [(e, q, x)], [], o, q, gr⟩ = 0 ∧ Ch.deliver ⟨cr, b, e, [(e, q, x)], [], o, q, gr⟩ = ⟨cr, b, e, [], [x], o, IntKind.u64.wrap (q + 1), max gr 1⟩ := by
  have h0 : ¬cr ≤ 0 := by omega
  constructor
  · simp [Ch.dlv, Ch.arr, h0]
  · simp [Ch.deliver, Ch.arrive, Ch.arr, h0]
def sOf (j : Nat) : ByteArray := strOfNums [(j : Int) % 256, (j : Int) / 256]
theorem conv2 (w : World) (j : Nat) : (convert 29 9 (.slice (some ⟨w.heap.size, 0, none⟩) 2 2)).run Try.prog (w.alloc (.cells #[.int .u8 ((j : Int) % 256), .int .u8 ((j : Int) / 256)] 5)) = .ok (.string (sOf j)) (w.alloc (.cells #[.int .u8 ((j : Int) % 256), .int .u8 ((j : Int) / 256)] 5)) :=
  run_convert_bytes_arg _ 29 5 Try.underlying29 Try.underlying5 _ 0 2 2 [(j : Int) % 256, (j : Int) / 256] rfl (fun i hi => by
    rw [World.cell?_alloc_new]
    rcases (show i = 0 ∨ i = 1 by omega) with rfl | rfl <;> rfl) 9 Try.underlying9
set_option maxRecDepth 100000 in
theorem flowmoves_walk (credits n : Int) (w : World) (hc : (Lit.int .i64 credits).wf = true) (hn : (Lit.int .i64 n).wf = true) :
    Calls Try.prog 3 #[.int .i64 credits, .int .i64 n] w fun e w' => e = .returned (.bool true) ∧ Below w.heap.size w w' := by
  clear hc hn
  obtain ⟨m, hm⟩ : ∃ m : Nat, n % 300 = (m : Int) := ⟨(n % 300).toNat, by omega⟩
  have hm3 : m < 300 := by omega
  have hm := Lib.hid hm
  go_enter Try.func3, Try.ntmps3
  go_wp2_with fail
  refine (known8 w w _ (Hs.start w)).mono ?_
  rintro e w1 ⟨rfl, H⟩
  go_wp2_with fail
  refine (place9 n 300 _ (by omega) (by omega)).mono ?_
  rw [hm.out]
  rintro e w2 ⟨rfl, rfl⟩
  go_wp2_with fail
  refine (chan_new10 credits 1 _ _ _ H).mono ?_
  rintro e w2 ⟨p, rfl, H⟩
  obtain ⟨cr, hcr⟩ : ∃ cr, min (max credits 1) 64 = cr := ⟨_, rfl⟩
  have hcr1 : 1 ≤ cr ∧ cr ≤ 64 := by omega
  unfold Ch.fresh at H
  rw [hcr] at H
  clear hcr
  replace H := Lib.hid H
  go_wp2_with fail
  go_loopg [6] m (fun k i wr => ∃ (j : Nat), k + j = m ∧ i = .int .i64 j ∧ Hid (Hs w wr [ChanS p ⟨cr, (List.range j).map sOf, 1, [], [], 1, 1, 0⟩, Old w]))
  case atStart => exact ⟨0, rfl, rfl, H.out⟩
  case round =>
    clear H
    obtain ⟨j, hk, rfl, H⟩ := hrel
    replace hk := Lib.hid hk
    rcases Nat.lt_or_ge j m with hj | hj
    · have hj1 : (j : Int) < (m : Int) := by omega
      have hcv := conv2 wr j
      go_wp2_with fail
      refine (chan_offer11 p _ (sOf j) _ _ _ (H.out.alloc_ _) ⟨hcr1.1, hcr1.2, by simp; omega, Nat.zero_le _, Nat.zero_le _⟩).mono ?_
      rintro e w2 ⟨rfl, H2⟩
      clear hcv
      replace H2 := Lib.hid H2
      go_wp2_with fail
      go_roundg (m - (j + 1))
      case measure => have := hk.out; omega
      case rel => exact ⟨j + 1, by omega, by simp, by rw [List.range_succ, List.map_append]; exact H2.out⟩
    · have hj1 : (m : Int) ≤ (j : Int) := by omega
      obtain rfl : m = j := by have := hk.out; omega
      go_wp2_with fail
      go_loopg [7, 8, 9] m (fun k i xx bb wr => ∃ (j : Nat) (gr : Int), k + j = m ∧ i = .int .i64 j ∧ Hid (Hs w wr [ChanS p ⟨cr, ((List.range m).map sOf).drop j, 1, [], [], (j : Int) + 1, (j : Int) + 1, gr⟩, Old w]))
      case atStart => exact ⟨0, 0, rfl, rfl, H.out⟩
      case round =>
        clear H hk
        obtain ⟨j, gr, hk, rfl, H⟩ := hrel
        replace hk := Lib.hid hk
        rcases Nat.lt_or_ge j m with hj | hj
        · have hj1 : (j : Int) < (m : Int) := by omega
          have hd : Hid (((List.range m).map sOf).drop j = sOf j :: ((List.range m).map sOf).drop (j + 1)) := by
            show _ = _
            rw [List.drop_eq_getElem_cons (by simpa using hj)]
            simp
          have hlen : Hid ((((List.range m).map sOf).drop j).length ≤ 300) := by show _ ≤ _; simp; omega
          rw [hd.out] at H hlen
          have hw : Hid (IntKind.u64.wrap ((j : Int) + 1 + 1) = (j : Int) + 1 + 1) := IntWalk.u64_in _ (by omega)
          generalize hrest : ((List.range m).map sOf).drop (j + 1) = rest at *
          replace hrest := Lib.hid hrest
          simp only [List.length_cons] at hlen
          have hok1 : Hid (Ch.Ok (⟨cr, sOf j :: rest, 1, [], [], (j : Int) + 1, (j : Int) + 1, gr⟩ : Ch ByteArray)) := ⟨hcr1.1, hcr1.2, by have := hlen.out; show (sOf j :: rest).length ≤ _; rw [List.length_cons]; omega, Nat.zero_le _, Nat.zero_le _⟩
          have hok2 : Hid (Ch.Ok (⟨cr, rest, 1, [(1, (j : Int) + 1, sOf j)], [], (j : Int) + 1 + 1, (j : Int) + 1, gr⟩ : Ch ByteArray)) := ⟨hcr1.1, hcr1.2, by have := hlen.out; show rest.length ≤ _; omega, by simp, Nat.zero_le _⟩
          have hok3 : Hid (Ch.Ok (⟨cr, rest, 1, [], [sOf j], (j : Int) + 1 + 1, (j : Int) + 1 + 1, max gr 1⟩ : Ch ByteArray)) := ⟨hcr1.1, hcr1.2, by have := hlen.out; show rest.length ≤ _; omega, Nat.zero_le _, by simp⟩
          have hcred : Hid (0 < Ch.cred (⟨cr, sOf j :: rest, 1, [], [], (j : Int) + 1, (j : Int) + 1, gr⟩ : Ch ByteArray)) := by show 0 < cr - 0 - 0; omega
          go_wp2_with fail
          refine (chan_send12 p _ (sOf j) rest _ _ _ H.out hok1.out rfl hcred.out).mono ?_
          rintro e w2 ⟨rfl, H2⟩
          simp only [hw.out, List.nil_append] at H2
          clear H
          go_wp2_with fail
          refine (chan_deliver13 p _ _ _ _ H2 hok2.out).mono ?_
          rw [(Ch.dlv1 cr gr 1 ((j : Int) + 1) ((j : Int) + 1 + 1) (sOf j) rest hcr1.1).1, (Ch.dlv1 cr gr 1 ((j : Int) + 1) ((j : Int) + 1 + 1) (sOf j) rest hcr1.1).2, hw.out]
          rintro e w3 ⟨rfl, H3⟩
          clear H2
          go_wp2_with fail
          refine (chan_take14 p _ _ _ _ H3 hok3.out).mono ?_
          rintro e w4 ⟨rfl, H4⟩
          replace H4 := Lib.hid H4
          clear H3
          simp only [List.headD_cons, List.isEmpty_cons, Bool.not_false]
          have hcv := conv2 w4 j
          clear hw hcred hok1 hok2 hok3
          go_wp2_with fail
          go_roundg (m - (j + 1))
          case measure => have := hk.out; omega
          case rel => exact ⟨j + 1, _, by omega, by simp, by rw [hrest.out]; exact H4.out.alloc_ _⟩
        · have hj1 : (m : Int) ≤ (j : Int) := by omega
          obtain rfl : m = j := by have := hk.out; omega
          rw [List.drop_eq_nil_of_le (by simp)] at H
          go_wp2_with fail
          refine (chan_take14 p _ _ _ _ H.out ⟨hcr1.1, hcr1.2, Nat.zero_le _, Nat.zero_le _, Nat.zero_le _⟩).mono ?_
          rintro e w4 ⟨rfl, H4⟩
          go_wp2_with fail
          refine (chan_backlog15 p _ _ _ _ H4).mono ?_
          rintro e w5 ⟨rfl, rfl⟩
          go_wp2_with fail
          go_ret
          exact ⟨rfl, below_of H4.drop⟩
end Go.Proofs.Ytoiokmfdmpifiaa

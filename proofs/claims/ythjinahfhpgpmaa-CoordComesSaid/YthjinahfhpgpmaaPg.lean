import Derived.Test.YthjinahfhpgpmaaPd
import Derived.Test.YthjinahfhpgpmaaPn
import Derived.Carry
import Derived.StillTailTactics
import Derived.IntWalk
import Derived.Test.YthjinahfhpgpmaaProg
import Derived.Test.YthjinahfhpgpmaaLs
import Derived.Outline
import Derived.StillTailTactics
import Derived.Deep.DeepCutAuto
import Derived.Deep.CutBlock
import Derived.Deep.LoopGhost
import Derived.Deep.QuietTactic
import Derived.BigQuiet
import Derived.Deep.RegionHeld3
import Derived.Deep.RegionLaw
set_option linter.unusedVariables false
set_option linter.unusedSimpArgs false
namespace Go.Proofs.Ythjinahfhpgpmaa
open Go.RowKit
theorem uniq_len : ∀ (r l : List Int), (uniq l r).length ≤ l.length + r.length
  | [], l => Nat.le_refl _
  | x :: r, l => by
    unfold uniq
    have := uniq_len r (if l.contains x then l else l ++ [x])
    split at this
    · rw [List.length_cons]; rename_i h; rw [if_pos h]; omega
    · rw [List.length_cons]; rename_i h; rw [if_neg h]; rw [List.length_append, List.length_singleton] at this; omega
theorem uniqIn_len (t : List Int) : ∀ (r l : List Int), (uniqIn t l r).length ≤ l.length + r.length
  | [], l => Nat.le_refl _
  | x :: r, l => by
    unfold uniqIn
    have := uniqIn_len t r (if t.contains x && !l.contains x then l ++ [x] else l)
    split at this
    · rw [List.length_cons]; rename_i h; rw [if_pos h]; rw [List.length_append, List.length_singleton] at this; omega
    · rw [List.length_cons]; rename_i h; rw [if_neg h]; omega
def newCells (vt vs : Value) (i t : Int) : Array Value := #[vt, vs, .int .i64 i, .int .i64 t, .int .u64 0, .int .u64 0, .int .u64 0, .map none, .map none, .map none, .int .u64 0, .int .u64 0, .bool false, .int .i64 0, .int .i64 0, .int .i64 0, .int .i64 0]
set_option maxRecDepth 100000 in
set_option maxHeartbeats 2000000 in
theorem new10 (tv sv : Value) (ts ss : List Int) (i0 t0 : Int) (w w0 : World) (R : List HP) (H : Hs w0 w R) (ht : ∀ w', Hs w0 w' R → RdL (Enc.num .i64) w' tv ts) (hs : ∀ w', Hs w0 w' R → RdL (Enc.num .i64) w' sv ss) (hlt : ts.length ≤ 1000) (hls : ss.length ≤ 1000) :
    Calls Try.prog 10 #[tv, sv, .int .i64 i0, .int .i64 t0] w fun e w' => ∃ p v, e = .returned (.pointer (some ⟨p, 0, none⟩)) ∧ Hs w0 w' (CoV p v (Co.new ts ss i0 t0) :: R) := by
  obtain ⟨At, ct, hvt⟩ := (ht w H).form
  obtain ⟨As, cs, hvs⟩ := (hs w H).form
  subst hvt hvs
  have hct := (ht w H).caps.2
  have hcs := (hs w H).caps.2
  obtain ⟨N, hN⟩ : ∃ N, ts.length = N := ⟨_, rfl⟩
  obtain ⟨M, hM⟩ : ∃ M, ss.length = M := ⟨_, rfl⟩
  rw [hN] at hct ht hlt ⊢
  rw [hM] at hcs hs hls ⊢
  replace ht := Lib.hid ht
  replace hs := Lib.hid hs
  replace hN := Lib.hid hN
  replace hM := Lib.hid hM
  have hmm := @run_makeMap Try.prog
  obtain ⟨ci, hci⟩ : ∃ ci, clampC i0 = ci := ⟨_, rfl⟩
  obtain ⟨cc, hcc⟩ : ∃ cc, clampC t0 = cc := ⟨_, rfl⟩
  have H1 := Lib.hid ((H.ls_nil (Enc.num .i64) 3).alloc (.cells (newCells (.slice none 0 0) (.slice none 0 0) ci cc) 51))
  go_enter Try.func10, Try.ntmps10
  go_wp2_with fail
  refine (clamp22 i0 _).mono ?_
  rw [hci]
  rintro e w1 ⟨rfl, rfl⟩
  go_wp2_with fail
  refine (clamp22 t0 _).mono ?_
  rw [hcc]
  rintro e w1 ⟨rfl, rfl⟩
  replace hci := Lib.hid hci
  replace hcc := Lib.hid hcc
  go_upto_region 4 with (fail)
  unfold newCells at H1
  generalize World.alloc w _ = w1 at H1 ⊢
  generalize w.heap.size = p at H1 ⊢
  clear hmm
  go_loopg [25] N (fun k iv wr => ∃ (j : Nat) (A : Option Addr) (c : Nat) (l : List Int), k + j = N ∧ iv = .int .i64 j ∧ Hid (uniq [] ts = uniq l (ts.drop j) ∧ l.length ≤ j) ∧ Hid (Hs w0 wr (Blk p (.cells (newCells (.slice A l.length c) (.slice none 0 0) ci cc) 51 (0, 0)) :: Ls (Enc.num .i64) 3 (.slice A l.length c) l :: R)))
  case atStart => exact ⟨0, none, 0, [], rfl, rfl, ⟨rfl, Nat.le_refl _⟩, H1⟩
  case round =>
    clear H1
    obtain ⟨j, A, c, l, hk, rfl, hu, H1⟩ := hrel
    replace hk := Lib.hid hk
    have k0 : wr.cell? ⟨p, 0, none⟩ = some (.slice A l.length c) := H1.out.cellOf 0 rfl
    rcases Nat.lt_or_ge j N with hj | hj
    · have hj0 : (0 : Int) ≤ (j : Int) := by omega
      have hj1 : (j : Int) < (N : Int) := by omega
      have hw6 : IntKind.i64.wrap ((j : Int) + 1) = ((j + 1 : Nat) : Int) := by rw [IntWalk.i64_in _ (by omega)]; omega
      have hjl : j < ts.length := by have := hN.out; omega
      obtain ⟨x, hx⟩ : ∃ x, ts[j]? = some x := ⟨_, List.getElem?_eq_getElem hjl⟩
      have hdr : Hid (ts.drop j = x :: ts.drop (j + 1)) := by
        show _ = _
        rw [List.drop_eq_getElem_cons hjl]
        rw [List.getElem?_eq_getElem hjl] at hx
        injection hx with hx
        rw [hx]
      obtain ⟨g, off, rfl⟩ := (ht.out _ H1.out.tail.tail).some_ (by have := hN.out; omega)
      have s0 : wr.cell? ⟨g, off + j, none⟩ = some (.int .i64 x) := by have := (ht.out _ H1.out.tail.tail).cell hx 0 rfl; simpa [Enc.num] using this
      replace hx := Lib.hid hx
      replace hjl := Lib.hid hjl
      go_wp2_with fail
      refine (contains23 A l.length c x l _ H1.out.at1.ls_rd).mono ?_
      cases hcn : l.contains x with
      | true =>
        rintro e w2 ⟨rfl, rfl⟩
        have hu' : Hid (uniq [] ts = uniq l (ts.drop (j + 1)) ∧ l.length ≤ j + 1) := by
          refine ⟨?_, by have := hu.out.2; omega⟩
          rw [hu.out.1, hdr.out]
          show uniq (if l.contains x then l else l ++ [x]) _ = _
          rw [hcn]
          rfl
        go_wp2_with fail
        go_roundg (N - (j + 1))
        case measure => have := hk.out; omega
        case rel => exact ⟨j + 1, A, c, l, by have := hk.out; omega, by go_num, hu', H1⟩
      | false =>
        rintro e w2 ⟨rfl, rfl⟩
        have hu' : Hid (uniq [] ts = uniq (l ++ [x]) (ts.drop (j + 1)) ∧ (l ++ [x]).length ≤ j + 1) := by
          refine ⟨?_, by have := hu.out.2; rw [List.length_append, List.length_singleton]; omega⟩
          rw [hu.out.1, hdr.out]
          show uniq (if l.contains x then l else l ++ [x]) _ = _
          rw [hcn]
          rfl
        have hlb : Hid ((l.length + 1) * 8 ≤ 140737488355328) := by show _ ≤ _; have := hu.out.2; omega
        go_wp2_with (at_builtin; refine wpList_append1L (E := Enc.num .i64) rfl (.tmp 40) (.tmp 42) 24 rfl 3 _ 1 8 Try.underlying24 infoI rfl (by decide) (by decide) rfl rfl rfl H1.out.at1 x hlb.out ?_)
        intro A5 c5 w5 H5
        have f0 := H5.at1.frozenOf 0
        have d0 := H5.at1.cellOf 0 rfl
        have H6 := H5.at1.setCell (i := 0) (.slice A5 (l.length + 1) c5)
        rw [show l.length + 1 = (l ++ [x]).length from by simp] at H6
        replace H6 := Lib.hid H6
        clear H1 k0 s0 H5
        go_wp2_with fail
        go_roundg (N - (j + 1))
        case measure => have := hk.out; omega
        case rel => exact ⟨j + 1, A5, c5, l ++ [x], by have := hk.out; omega, by go_num, hu', by first | exact H6 | (rw [show l.length + 1 = (l ++ [x]).length from by simp]; exact H6)⟩
    · have hj1 : decide ((j : Int) < (N : Int)) = false := by rw [decide_eq_false_iff_not]; omega
      have hj2 : decide (j < N) = false := by rw [decide_eq_false_iff_not]; omega
      have hfin : uniq [] ts = l ∧ l.length ≤ 1000 := by
        have h := hu.out.1
        rw [List.drop_eq_nil_of_le (by have := hN.out; omega)] at h
        exact ⟨h, by have := hu.out.2; have := hk.out; omega⟩
      obtain ⟨tl, htl⟩ : ∃ tl, tl = l := ⟨_, rfl⟩
      rw [← htl] at H1 k0 hfin
      have hft := Lib.hid hfin.1
      have htm := hfin.2
      obtain ⟨TN, hTN⟩ : ∃ TN, tl.length = TN := ⟨_, rfl⟩
      rw [hTN] at H1 k0 htm
      replace hTN := Lib.hid hTN
      have H2 := Lib.hid (H1.out.ls_nil (Enc.num .i64) 3).at1
      clear hj hu hk hfin htl H1 k0
      go_wp2_with fail
      clear hj1 hj2
      go_loopg [49] M (fun k iv wr => ∃ (j : Nat) (A2 : Option Addr) (c2 : Nat) (l : List Int), k + j = M ∧ iv = .int .i64 j ∧ Hid (uniqIn tl [] ss = uniqIn tl l (ss.drop j) ∧ l.length ≤ j) ∧ Hid (Hs w0 wr (Blk p (.cells (newCells (.slice A TN c) (.slice A2 l.length c2) ci cc) 51 (0, 0)) :: Ls (Enc.num .i64) 3 (.slice A2 l.length c2) l :: Ls (Enc.num .i64) 3 (.slice A TN c) tl :: R)))
      case atStart => exact ⟨0, none, 0, [], rfl, rfl, ⟨rfl, Nat.le_refl _⟩, H2⟩
      case round =>
        clear H2
        obtain ⟨j, A2, c2, l, hk, rfl, hu, H1⟩ := hrel
        replace hk := Lib.hid hk
        have k0 : wr.cell? ⟨p, 0, none⟩ = some (.slice A TN c) := H1.out.cellOf 0 rfl
        have k1 : wr.cell? ⟨p, 1, none⟩ = some (.slice A2 l.length c2) := H1.out.cellOf 1 rfl
        rcases Nat.lt_or_ge j M with hj | hj
        · have hj0 : (0 : Int) ≤ (j : Int) := by omega
          have hj1 : (j : Int) < (M : Int) := by omega
          have hw6 : IntKind.i64.wrap ((j : Int) + 1) = ((j + 1 : Nat) : Int) := by rw [IntWalk.i64_in _ (by omega)]; omega
          have hjl : j < ss.length := by have := hM.out; omega
          obtain ⟨x, hx⟩ : ∃ x, ss[j]? = some x := ⟨_, List.getElem?_eq_getElem hjl⟩
          have hdr : Hid (ss.drop j = x :: ss.drop (j + 1)) := by
            show _ = _
            rw [List.drop_eq_getElem_cons hjl]
            rw [List.getElem?_eq_getElem hjl] at hx
            injection hx with hx
            rw [hx]
          obtain ⟨g, off, rfl⟩ := (hs.out _ H1.out.tail.tail.tail).some_ (by have := hM.out; omega)
          have s0 : wr.cell? ⟨g, off + j, none⟩ = some (.int .i64 x) := by have := (hs.out _ H1.out.tail.tail.tail).cell hx 0 rfl; simpa [Enc.num] using this
          replace hx := Lib.hid hx
          replace hjl := Lib.hid hjl
          go_wp2_with fail
          refine (contains23 A TN c x tl _ H1.out.at2.ls_rd).mono ?_
          cases htn : tl.contains x with
          | false =>
            rintro e w2 ⟨rfl, rfl⟩
            have hu' : Hid (uniqIn tl [] ss = uniqIn tl l (ss.drop (j + 1)) ∧ l.length ≤ j + 1) := by
              refine ⟨?_, by have := hu.out.2; omega⟩
              rw [hu.out.1, hdr.out]
              show uniqIn tl (if tl.contains x && !l.contains x then l ++ [x] else l) _ = _
              rw [htn]
              rfl
            go_wp2_with fail
            go_roundg (M - (j + 1))
            case measure => have := hk.out; omega
            case rel => exact ⟨j + 1, A2, c2, l, by have := hk.out; omega, by go_num, hu', H1⟩
          | true =>
            rintro e w2 ⟨rfl, rfl⟩
            go_wp2_with fail
            refine (contains23 A2 l.length c2 x l _ H1.out.at1.ls_rd).mono ?_
            cases hcn : l.contains x with
            | true =>
              rintro e w2 ⟨rfl, rfl⟩
              have hu' : Hid (uniqIn tl [] ss = uniqIn tl l (ss.drop (j + 1)) ∧ l.length ≤ j + 1) := by
                refine ⟨?_, by have := hu.out.2; omega⟩
                rw [hu.out.1, hdr.out]
                show uniqIn tl (if tl.contains x && !l.contains x then l ++ [x] else l) _ = _
                rw [htn, hcn]
                rfl
              go_wp2_with fail
              go_roundg (M - (j + 1))
              case measure => have := hk.out; omega
              case rel => exact ⟨j + 1, A2, c2, l, by have := hk.out; omega, by go_num, hu', H1⟩
            | false =>
              rintro e w2 ⟨rfl, rfl⟩
              have hu' : Hid (uniqIn tl [] ss = uniqIn tl (l ++ [x]) (ss.drop (j + 1)) ∧ (l ++ [x]).length ≤ j + 1) := by
                refine ⟨?_, by have := hu.out.2; rw [List.length_append, List.length_singleton]; omega⟩
                rw [hu.out.1, hdr.out]
                show uniqIn tl (if tl.contains x && !l.contains x then l ++ [x] else l) _ = _
                rw [htn, hcn]
                rfl
              have hlb : Hid ((l.length + 1) * 8 ≤ 140737488355328) := by show _ ≤ _; have := hu.out.2; omega
              go_wp2_with (at_builtin; refine wpList_append1L (E := Enc.num .i64) rfl (.tmp 72) (.tmp 74) 24 rfl 3 _ 1 8 Try.underlying24 infoI rfl (by decide) (by decide) rfl rfl rfl H1.out.at1 x hlb.out ?_)
              intro A5 c5 w5 H5
              have f0 := H5.at1.frozenOf 1
              have d0 := H5.at1.cellOf 1 rfl
              have H6 := H5.at1.setCell (i := 1) (.slice A5 (l.length + 1) c5)
              rw [show l.length + 1 = (l ++ [x]).length from by simp] at H6
              replace H6 := Lib.hid H6
              clear H1 k0 k1 s0 H5
              go_wp2_with fail
              go_roundg (M - (j + 1))
              case measure => have := hk.out; omega
              case rel => exact ⟨j + 1, A5, c5, l ++ [x], by have := hk.out; omega, by go_num, hu', by first | exact H6 | (rw [show l.length + 1 = (l ++ [x]).length from by simp]; exact H6)⟩
        · have hj1 : decide ((j : Int) < (M : Int)) = false := by rw [decide_eq_false_iff_not]; omega
          have hj2 : decide (j < M) = false := by rw [decide_eq_false_iff_not]; omega
          have hfin : Hid (uniqIn tl [] ss = l) := by
            have h := hu.out.1
            rw [List.drop_eq_nil_of_le (by have := hM.out; omega)] at h
            exact h
          clear hj hu hk
          have k3 : wr.cell? ⟨p, 3, none⟩ = some (.int .i64 cc) := H1.out.cellOf 3 rfl
          have d13 : wr.cell? ⟨p, 13, none⟩ = some (.int .i64 0) := H1.out.cellOf 13 rfl
          have f13 := H1.out.frozenOf 13
          have H2 := Lib.hid (H1.out.setCell (i := 13) (.int .i64 cc))
          clear H1
          go_upto_region 16 with (fail)
          clear k0 k1 k3 d13 f13 hj1 hj2
          generalize World.setCell wr _ _ = w3 at H2 ⊢
          have H3 := ((H2.out.mf_made .i64 Value.bool false).mf_made .i64 Value.bool false).mf_made .i64 (Value.int .u64) 0
          have hsz : ∀ (w : World) (o : Obj), (w.alloc o).heap.size = w.heap.size + 1 := fun w o => Array.size_push ..
          simp only [hsz] at H3
          clear hsz
          have H4 := H3.at3
          have d7 : _ = some _ := H4.cellOf 7 rfl
          have d8 : _ = some _ := H4.cellOf 8 rfl
          have d9 : _ = some _ := H4.cellOf 9 rfl
          have f7 := H4.frozenOf 7
          have f8 := H4.frozenOf 8
          have f9 := H4.frozenOf 9
          have hmm := @run_makeMap Try.prog
          go_wp2_with fail
          have hnew : Co.new ts ss i0 t0 = ⟨tl, l, ci, cc, 0, 0, 0, nobody, nobody, fun _ => 0, 0, 0, false, cc, 0, 0, 0⟩ := by unfold Co.new; rw [hft.out, hfin.out, hci.out, hcc.out]
          rw [hnew]
          have H5 := ((H4.setCell (i := 7) (.map (some w3.heap.size))).setCell (i := 8) (.map (some (w3.heap.size + 1)))).setCell (i := 9) (.map (some (w3.heap.size + 1 + 1)))
          go_ret
          exact ⟨p, ⟨.slice A TN c, .slice A2 l.length c2, w3.heap.size, w3.heap.size + 1, w3.heap.size + 1 + 1⟩, rfl, CoV.mk_ (p := p) (s := ⟨tl, l, ci, cc, 0, 0, 0, nobody, nobody, fun _ => 0, 0, 0, false, cc, 0, 0, 0⟩) H5.at2.at3.at4.at5.at4⟩
end Go.Proofs.Ythjinahfhpgpmaa

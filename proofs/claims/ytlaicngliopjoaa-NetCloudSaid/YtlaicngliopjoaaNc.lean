import Derived.Test.YtlaicngliopjoaaNl
import Derived.Test.YtlaicngliopjoaaSt
import Derived.Test.YtlaicngliopjoaaProg
import Derived.Test.YtlaicngliopjoaaLs
import Derived.Outline
import Derived.StillTailTactics
import Derived.Deep.DeepCutAuto
import Derived.Deep.CutBlock
import Derived.Deep.LoopGhost
import Derived.Deep.QuietTactic
import Derived.BigQuiet
import Derived.Deep.RegionHeld3
import Derived.Deep.RegionLaw
set_option linter.unusedVariables false
set_option linter.unusedSimpArgs false
namespace Go.Proofs.Ytlaicngliopjoaa
open Go.RowKit
theorem map_zip {xs : List (Int × Int)} {k : Nat} {m : Int × Int} (h : xs[k]? = some m) : (xs.map (·.1))[k]? = some m.1 ∧ (xs.map (·.2))[k]? = some m.2 := by simp [h]
theorem map_erase {α β : Type} (f : α → β) (xs : List α) (k : Nat) : [] ++ (xs.map f).take k ++ (xs.map f).drop (k + 1) = (xs.eraseIdx k).map f := by
  rw [List.nil_append, List.eraseIdx_eq_take_drop_succ, List.map_append, List.map_take, List.map_drop]
set_option maxRecDepth 100000 in
set_option maxHeartbeats 2000000 in
theorem netcloud_walk (A : Option Addr) (n c : Nat) (steps : List (Int × Int × Int)) (w : World) (hr : RdL EStep w (.slice A n c) steps) (hok : ∀ x ∈ steps, (Lit.int .i64 x.1).wf = true ∧ (Lit.int .i64 x.2.1).wf = true ∧ (Lit.int .i64 x.2.2).wf = true) :
    Calls Try.prog 3 #[.slice A n c] w fun e w' => e = .returned (.bool true) ∧ Below w.heap.size w w' := by
  obtain ⟨hn, hnc, hc63⟩ := hr.caps
  replace hn := Lib.hid hn
  replace hr := Lib.hid hr
  replace hok := Lib.hid hok
  by_cases hlong : 500 < (n : Int)
  · go_enter Try.func3, Try.ntmps3
    go_wp2_with fail
    refine (known6 w w _ (Hs.start w)).mono ?_
    rintro e w1 ⟨rfl, H⟩
    go_wp2_with fail
    go_ret
    exact ⟨rfl, below_of H⟩
  · replace hlong : (n : Int) ≤ 500 := by omega
    go_enter Try.func3, Try.ntmps3
    go_wp2_with fail
    refine (known6 w w _ (Hs.start w)).mono ?_
    rintro e w1 ⟨rfl, H⟩
    go_wp2_with fail
    refine (cloud_new7 _ _ _ H).mono ?_
    rintro e w2 ⟨p, rfl, H⟩
    replace H := Lib.hid H
    go_wp2_with fail
    go_loopg [4, 5, 6] n (fun k tov whv i wr => ∃ (j : Nat) (xs : List (Int × Int)), k + j = n ∧ i = .int .i64 j ∧ xs.length ≤ j ∧ Hid (Hs w wr [Cloud p xs, Ls (Enc.num .i64) 3 tov (xs.map (·.1)), Ls (Enc.num .i64) 3 whv (xs.map (·.2)), Old w]))
    case atStart => exact ⟨0, [], rfl, rfl, by simp, ((H.out.ls_nil (Enc.num .i64) 3).ls_nil (Enc.num .i64) 3).at2⟩
    case round =>
      clear H
      obtain ⟨j, xs, hk, rfl, hxl, H⟩ := hrel
      obtain ⟨A1, c1, rfl⟩ := H.out.at1.ls_form
      obtain ⟨A2, c2, rfl⟩ := H.out.at2.ls_form
      simp only [List.length_map] at H ⊢
      have hjn : j ≤ n := by omega
      replace hk := Lib.hid hk
      rcases Nat.lt_or_ge j n with hj | hj
      · obtain ⟨g, off, rfl⟩ := hr.out.some_ (by have := hn.out; omega)
        obtain ⟨⟨a, b, d⟩, hs⟩ : ∃ s, steps[j]? = some s := ⟨_, List.getElem?_eq_getElem (by have := hn.out; omega)⟩
        have hrd := hr.out.old H.out.at3
        have s0 : wr.cell? ⟨g, off + j * 3, none⟩ = some (.int .i64 a) := hrd.cell hs 0 rfl
        have s1 : wr.cell? ⟨g, off + j * 3 + 1, none⟩ = some (.int .i64 b) := hrd.cell hs 1 rfl
        have s2 : wr.cell? ⟨g, off + j * 3 + 2, none⟩ = some (.int .i64 d) := hrd.cell hs 2 rfl
        obtain ⟨ha1, hb1, hd1⟩ := hok.out _ (List.mem_of_getElem? hs)
        have hd1 : -9223372036854775808 ≤ d ∧ d ≤ 9223372036854775807 := by simpa [Lit.wf, IntKind.min, IntKind.max, IntKind.signed, IntKind.bits] using hd1
        obtain ⟨hdlo, hdhi⟩ := hd1
        clear hrd hs ha1 hb1
        have H1 : Hid (Hs w (wr.alloc (.cells #[.int .i64 a, .int .i64 b, .int .i64 d] 28)) [Blk wr.heap.size (.cells #[.int .i64 a, .int .i64 b, .int .i64 d] 28), Cloud p xs, Ls (Enc.num .i64) 3 (.slice A1 xs.length c1) (xs.map (·.1)), Ls (Enc.num .i64) 3 (.slice A2 xs.length c2) (xs.map (·.2)), Old w]) := H.out.alloc _
        clear H
        obtain ⟨hcap1, hcap2⟩ := H1.out.at2.ls_rd.caps.2
        obtain ⟨hcap3, hcap4⟩ := H1.out.at3.ls_rd.caps.2
        rcases Int.lt_or_le a 3 with ha | ha
        -- a message is sent
        · go_wp2_with fail
          refine (cloud_send8 p d b xs _ _ _ H1.out.at1 (by omega)).mono ?_
          rintro e1 w1 ⟨rfl, H⟩
          clear s0 s1 s2
          go_upto_region 13 with (fail)
          generalize hbx : wr.heap.size = bx at *
          go_cut [4, 5] (fun tov whv wc => Hid (Hs w wc [Cloud p (xs ++ [(d, b)]), Ls (Enc.num .i64) 3 tov ((xs ++ [(d, b)]).map (·.1)), Ls (Enc.num .i64) 3 whv ((xs ++ [(d, b)]).map (·.2)), Old w]))
          case first =>
            clear H1
            have hl1 : ((xs.map (·.1)).length + 1) * 8 ≤ 140737488355328 := by simp; omega
            have hl2 : ((xs.map (·.2)).length + 1) * 8 ≤ 140737488355328 := by simp; omega
            have g0 : w1.cell? ⟨bx, 2, none⟩ = some (.int .i64 d) := H.at1.cellOf 2 rfl
            have g1 : w1.cell? ⟨bx, 1, none⟩ = some (.int .i64 b) := H.at1.cellOf 1 rfl
            go_region_held3 (fun w' => w'.cell? ⟨bx, 2, none⟩ = some (.int .i64 d) ∧ w'.cell? ⟨bx, 1, none⟩ = some (.int .i64 b))
              (((try dsimp only); refine ⟨?_, ?_⟩ <;> first
                | exact Hs.cellOf (cs := #[.int .i64 a, .int .i64 b, .int .i64 d]) (t := 28) (fr := (0, 0)) (by (first | (first | (first | with_reducible exact H | with_reducible exact H.at1 | with_reducible exact H.at2 | with_reducible exact H.at3 | with_reducible exact H.at4 | with_reducible exact H.at5 | with_reducible exact H.at6 | with_reducible exact H.at7) | (with_reducible apply Hs.alloc_under; first | with_reducible exact H | with_reducible exact H.at1 | with_reducible exact H.at2 | with_reducible exact H.at3 | with_reducible exact H.at4 | with_reducible exact H.at5 | with_reducible exact H.at6 | with_reducible exact H.at7) | (with_reducible apply Hs.alloc_under; with_reducible apply Hs.alloc_under; first | with_reducible exact H | with_reducible exact H.at1 | with_reducible exact H.at2 | with_reducible exact H.at3 | with_reducible exact H.at4 | with_reducible exact H.at5 | with_reducible exact H.at6 | with_reducible exact H.at7) | (with_reducible apply Hs.alloc_under; with_reducible apply Hs.alloc_under; with_reducible apply Hs.alloc_under; first | with_reducible exact H | with_reducible exact H.at1 | with_reducible exact H.at2 | with_reducible exact H.at3 | with_reducible exact H.at4 | with_reducible exact H.at5 | with_reducible exact H.at6 | with_reducible exact H.at7)) | (with_reducible apply Hs.drew; first | (first | with_reducible exact H | with_reducible exact H.at1 | with_reducible exact H.at2 | with_reducible exact H.at3 | with_reducible exact H.at4 | with_reducible exact H.at5 | with_reducible exact H.at6 | with_reducible exact H.at7) | (with_reducible apply Hs.alloc_under; first | with_reducible exact H | with_reducible exact H.at1 | with_reducible exact H.at2 | with_reducible exact H.at3 | with_reducible exact H.at4 | with_reducible exact H.at5 | with_reducible exact H.at6 | with_reducible exact H.at7) | (with_reducible apply Hs.alloc_under; with_reducible apply Hs.alloc_under; first | with_reducible exact H | with_reducible exact H.at1 | with_reducible exact H.at2 | with_reducible exact H.at3 | with_reducible exact H.at4 | with_reducible exact H.at5 | with_reducible exact H.at6 | with_reducible exact H.at7) | (with_reducible apply Hs.alloc_under; with_reducible apply Hs.alloc_under; with_reducible apply Hs.alloc_under; first | with_reducible exact H | with_reducible exact H.at1 | with_reducible exact H.at2 | with_reducible exact H.at3 | with_reducible exact H.at4 | with_reducible exact H.at5 | with_reducible exact H.at6 | with_reducible exact H.at7)))) 2 rfl
                | exact Hs.cellOf (cs := #[.int .i64 a, .int .i64 b, .int .i64 d]) (t := 28) (fr := (0, 0)) (by (first | (first | (first | with_reducible exact H | with_reducible exact H.at1 | with_reducible exact H.at2 | with_reducible exact H.at3 | with_reducible exact H.at4 | with_reducible exact H.at5 | with_reducible exact H.at6 | with_reducible exact H.at7) | (with_reducible apply Hs.alloc_under; first | with_reducible exact H | with_reducible exact H.at1 | with_reducible exact H.at2 | with_reducible exact H.at3 | with_reducible exact H.at4 | with_reducible exact H.at5 | with_reducible exact H.at6 | with_reducible exact H.at7) | (with_reducible apply Hs.alloc_under; with_reducible apply Hs.alloc_under; first | with_reducible exact H | with_reducible exact H.at1 | with_reducible exact H.at2 | with_reducible exact H.at3 | with_reducible exact H.at4 | with_reducible exact H.at5 | with_reducible exact H.at6 | with_reducible exact H.at7) | (with_reducible apply Hs.alloc_under; with_reducible apply Hs.alloc_under; with_reducible apply Hs.alloc_under; first | with_reducible exact H | with_reducible exact H.at1 | with_reducible exact H.at2 | with_reducible exact H.at3 | with_reducible exact H.at4 | with_reducible exact H.at5 | with_reducible exact H.at6 | with_reducible exact H.at7)) | (with_reducible apply Hs.drew; first | (first | with_reducible exact H | with_reducible exact H.at1 | with_reducible exact H.at2 | with_reducible exact H.at3 | with_reducible exact H.at4 | with_reducible exact H.at5 | with_reducible exact H.at6 | with_reducible exact H.at7) | (with_reducible apply Hs.alloc_under; first | with_reducible exact H | with_reducible exact H.at1 | with_reducible exact H.at2 | with_reducible exact H.at3 | with_reducible exact H.at4 | with_reducible exact H.at5 | with_reducible exact H.at6 | with_reducible exact H.at7) | (with_reducible apply Hs.alloc_under; with_reducible apply Hs.alloc_under; first | with_reducible exact H | with_reducible exact H.at1 | with_reducible exact H.at2 | with_reducible exact H.at3 | with_reducible exact H.at4 | with_reducible exact H.at5 | with_reducible exact H.at6 | with_reducible exact H.at7) | (with_reducible apply Hs.alloc_under; with_reducible apply Hs.alloc_under; with_reducible apply Hs.alloc_under; first | with_reducible exact H | with_reducible exact H.at1 | with_reducible exact H.at2 | with_reducible exact H.at3 | with_reducible exact H.at4 | with_reducible exact H.at5 | with_reducible exact H.at6 | with_reducible exact H.at7)))) 1 rfl))
              (first
                | (refine step_append_box (E := Enc.num .i64) (v := .slice A1 xs.length c1) (by rfl) (.tmp 38) (.tmp 41) 26 (by rfl) 3 _ 1 8 Try.underlying26 info30 rfl (by decide) (by decide) rfl (by rfl) (by rfl) (by (first | (first | (first | with_reducible exact H | with_reducible exact H.at1 | with_reducible exact H.at2 | with_reducible exact H.at3 | with_reducible exact H.at4 | with_reducible exact H.at5 | with_reducible exact H.at6 | with_reducible exact H.at7) | (with_reducible apply Hs.alloc_under; first | with_reducible exact H | with_reducible exact H.at1 | with_reducible exact H.at2 | with_reducible exact H.at3 | with_reducible exact H.at4 | with_reducible exact H.at5 | with_reducible exact H.at6 | with_reducible exact H.at7) | (with_reducible apply Hs.alloc_under; with_reducible apply Hs.alloc_under; first | with_reducible exact H | with_reducible exact H.at1 | with_reducible exact H.at2 | with_reducible exact H.at3 | with_reducible exact H.at4 | with_reducible exact H.at5 | with_reducible exact H.at6 | with_reducible exact H.at7) | (with_reducible apply Hs.alloc_under; with_reducible apply Hs.alloc_under; with_reducible apply Hs.alloc_under; first | with_reducible exact H | with_reducible exact H.at1 | with_reducible exact H.at2 | with_reducible exact H.at3 | with_reducible exact H.at4 | with_reducible exact H.at5 | with_reducible exact H.at6 | with_reducible exact H.at7)) | (with_reducible apply Hs.drew; first | (first | with_reducible exact H | with_reducible exact H.at1 | with_reducible exact H.at2 | with_reducible exact H.at3 | with_reducible exact H.at4 | with_reducible exact H.at5 | with_reducible exact H.at6 | with_reducible exact H.at7) | (with_reducible apply Hs.alloc_under; first | with_reducible exact H | with_reducible exact H.at1 | with_reducible exact H.at2 | with_reducible exact H.at3 | with_reducible exact H.at4 | with_reducible exact H.at5 | with_reducible exact H.at6 | with_reducible exact H.at7) | (with_reducible apply Hs.alloc_under; with_reducible apply Hs.alloc_under; first | with_reducible exact H | with_reducible exact H.at1 | with_reducible exact H.at2 | with_reducible exact H.at3 | with_reducible exact H.at4 | with_reducible exact H.at5 | with_reducible exact H.at6 | with_reducible exact H.at7) | (with_reducible apply Hs.alloc_under; with_reducible apply Hs.alloc_under; with_reducible apply Hs.alloc_under; first | with_reducible exact H | with_reducible exact H.at1 | with_reducible exact H.at2 | with_reducible exact H.at3 | with_reducible exact H.at4 | with_reducible exact H.at5 | with_reducible exact H.at6 | with_reducible exact H.at7)))) d (by (first | exact RdL.boxAt _ (by simp) | exact (RdL.boxAt _ (by simp)).alloc _ | exact ((RdL.boxAt _ (by simp)).alloc _).alloc _ | (with_reducible apply RdL.drew; first | exact RdL.boxAt _ (by simp) | exact (RdL.boxAt _ (by simp)).alloc _ | exact ((RdL.boxAt _ (by simp)).alloc _).alloc _) | exact RdL.of_blk' H (by simp) rfl | exact RdL.of_blk' H.at1 (by simp) rfl | exact RdL.of_blk' H.at2 (by simp) rfl | exact RdL.of_blk' H.at3 (by simp) rfl | exact RdL.of_blk' H.at4 (by simp) rfl | exact RdL.of_blk' H.at5 (by simp) rfl | exact RdL.of_blk' H.at6 (by simp) rfl | exact RdL.of_blk' H.at7 (by simp) rfl | exact (RdL.of_blk' H (by simp) rfl).alloc _ | exact (RdL.of_blk' H.at1 (by simp) rfl).alloc _ | exact (RdL.of_blk' H.at2 (by simp) rfl).alloc _ | exact (RdL.of_blk' H.at3 (by simp) rfl).alloc _ | exact (RdL.of_blk' H.at4 (by simp) rfl).alloc _ | exact (RdL.of_blk' H.at5 (by simp) rfl).alloc _ | exact (RdL.of_blk' H.at6 (by simp) rfl).alloc _ | exact (RdL.of_blk' H.at7 (by simp) rfl).alloc _)) hl1 ?_; intro A' c' w' H)
                | (refine step_append_box (E := Enc.num .i64) (v := .slice A2 xs.length c2) (by rfl) (.tmp 43) (.tmp 46) 26 (by rfl) 3 _ 1 8 Try.underlying26 info30 rfl (by decide) (by decide) rfl (by rfl) (by rfl) (by (first | (first | (first | with_reducible exact H | with_reducible exact H.at1 | with_reducible exact H.at2 | with_reducible exact H.at3 | with_reducible exact H.at4 | with_reducible exact H.at5 | with_reducible exact H.at6 | with_reducible exact H.at7) | (with_reducible apply Hs.alloc_under; first | with_reducible exact H | with_reducible exact H.at1 | with_reducible exact H.at2 | with_reducible exact H.at3 | with_reducible exact H.at4 | with_reducible exact H.at5 | with_reducible exact H.at6 | with_reducible exact H.at7) | (with_reducible apply Hs.alloc_under; with_reducible apply Hs.alloc_under; first | with_reducible exact H | with_reducible exact H.at1 | with_reducible exact H.at2 | with_reducible exact H.at3 | with_reducible exact H.at4 | with_reducible exact H.at5 | with_reducible exact H.at6 | with_reducible exact H.at7) | (with_reducible apply Hs.alloc_under; with_reducible apply Hs.alloc_under; with_reducible apply Hs.alloc_under; first | with_reducible exact H | with_reducible exact H.at1 | with_reducible exact H.at2 | with_reducible exact H.at3 | with_reducible exact H.at4 | with_reducible exact H.at5 | with_reducible exact H.at6 | with_reducible exact H.at7)) | (with_reducible apply Hs.drew; first | (first | with_reducible exact H | with_reducible exact H.at1 | with_reducible exact H.at2 | with_reducible exact H.at3 | with_reducible exact H.at4 | with_reducible exact H.at5 | with_reducible exact H.at6 | with_reducible exact H.at7) | (with_reducible apply Hs.alloc_under; first | with_reducible exact H | with_reducible exact H.at1 | with_reducible exact H.at2 | with_reducible exact H.at3 | with_reducible exact H.at4 | with_reducible exact H.at5 | with_reducible exact H.at6 | with_reducible exact H.at7) | (with_reducible apply Hs.alloc_under; with_reducible apply Hs.alloc_under; first | with_reducible exact H | with_reducible exact H.at1 | with_reducible exact H.at2 | with_reducible exact H.at3 | with_reducible exact H.at4 | with_reducible exact H.at5 | with_reducible exact H.at6 | with_reducible exact H.at7) | (with_reducible apply Hs.alloc_under; with_reducible apply Hs.alloc_under; with_reducible apply Hs.alloc_under; first | with_reducible exact H | with_reducible exact H.at1 | with_reducible exact H.at2 | with_reducible exact H.at3 | with_reducible exact H.at4 | with_reducible exact H.at5 | with_reducible exact H.at6 | with_reducible exact H.at7)))) b (by (first | exact RdL.boxAt _ (by simp) | exact (RdL.boxAt _ (by simp)).alloc _ | exact ((RdL.boxAt _ (by simp)).alloc _).alloc _ | (with_reducible apply RdL.drew; first | exact RdL.boxAt _ (by simp) | exact (RdL.boxAt _ (by simp)).alloc _ | exact ((RdL.boxAt _ (by simp)).alloc _).alloc _) | exact RdL.of_blk' H (by simp) rfl | exact RdL.of_blk' H.at1 (by simp) rfl | exact RdL.of_blk' H.at2 (by simp) rfl | exact RdL.of_blk' H.at3 (by simp) rfl | exact RdL.of_blk' H.at4 (by simp) rfl | exact RdL.of_blk' H.at5 (by simp) rfl | exact RdL.of_blk' H.at6 (by simp) rfl | exact RdL.of_blk' H.at7 (by simp) rfl | exact (RdL.of_blk' H (by simp) rfl).alloc _ | exact (RdL.of_blk' H.at1 (by simp) rfl).alloc _ | exact (RdL.of_blk' H.at2 (by simp) rfl).alloc _ | exact (RdL.of_blk' H.at3 (by simp) rfl).alloc _ | exact (RdL.of_blk' H.at4 (by simp) rfl).alloc _ | exact (RdL.of_blk' H.at5 (by simp) rfl).alloc _ | exact (RdL.of_blk' H.at6 (by simp) rfl).alloc _ | exact (RdL.of_blk' H.at7 (by simp) rfl).alloc _)) hl2 ?_; intro A' c' w' H))
            all_goals go_wp2_with fail
            all_goals go_meet
            all_goals simp only [List.length_map] at H
            all_goals
              case rel =>
                show Hs _ _ _
                simp only [List.map_append, List.map_cons, List.map_nil]
                (refine Hs.conseq H fun h s => ?_; refine Sep.pickc (by first | with_reducible exact s | with_reducible exact s.at1 | with_reducible exact s.at2 | with_reducible exact s.at3 | with_reducible exact s.at4 | with_reducible exact s.at5 | with_reducible exact s.at6 | with_reducible exact s.at7) (fun h s => ?_); refine Sep.pickc (by first | with_reducible exact s | with_reducible exact s.at1 | with_reducible exact s.at2 | with_reducible exact s.at3 | with_reducible exact s.at4 | with_reducible exact s.at5 | with_reducible exact s.at6 | with_reducible exact s.at7) (fun h s => ?_); refine Sep.pickc (by first | with_reducible exact s | with_reducible exact s.at1 | with_reducible exact s.at2 | with_reducible exact s.at3 | with_reducible exact s.at4 | with_reducible exact s.at5 | with_reducible exact s.at6 | with_reducible exact s.at7) (fun h s => ?_); refine Sep.pickc (by first | with_reducible exact s | with_reducible exact s.at1 | with_reducible exact s.at2 | with_reducible exact s.at3 | with_reducible exact s.at4 | with_reducible exact s.at5 | with_reducible exact s.at6 | with_reducible exact s.at7) (fun h s => ?_); trivial)
          case rest =>
            clear H H1
            replace H := hcut
            obtain ⟨A3, c3, rfl⟩ := H.out.at1.ls_form
            obtain ⟨A4, c4, rfl⟩ := H.out.at2.ls_form
            go_wp2_with fail
            refine (cloud_len11 p (xs ++ [(d, b)]) _ _ _ H.out).mono ?_
            rintro e1 w3 ⟨rfl, rfl⟩
            go_wp2_with fail
            go_roundg (n - (j + 1))
            case measure => have := hk.out; omega
            case rel => exact ⟨j + 1, xs ++ [(d, b)], by have := hk.out; omega, by go_num, by simp; omega, by have h := H.out; simp only [List.length_map, List.length_append, List.length_cons, List.length_nil, Nat.zero_add] at h; exact h⟩
        -- a message is picked
        · rcases Nat.eq_zero_or_pos xs.length with hx0 | hx0
          · obtain rfl := List.eq_nil_of_length_eq_zero hx0
            go_wp2_with fail
            refine (cloud_pick_nil9 p d b _ _ _ H1.out.at1).mono ?_
            rintro e1 w1 ⟨rfl, rfl⟩
            go_wp2_with fail
            go_roundg (n - (j + 1))
            case measure => have := hk.out; omega
            case rel => exact ⟨j + 1, [], by have := hk.out; omega, by go_num, by simp, H1.out.drop⟩
          · obtain ⟨k, hk1⟩ : ∃ k : Nat, (k : Int) = d % (xs.length : Int) := ⟨(d % (xs.length : Int)).toNat, by have := Int.emod_nonneg d (show (xs.length : Int) ≠ 0 by omega); omega⟩
            have hklt : k < xs.length := by have := Int.emod_lt_of_pos d (show (0 : Int) < (xs.length : Int) by omega); omega
            obtain ⟨m, hm⟩ : ∃ m, xs[k]? = some m := ⟨_, List.getElem?_eq_getElem hklt⟩
            replace hk1 := Lib.hid hk1
            replace hm := Lib.hid hm
            have hL : xs.length ≤ 500 := by omega
            rcases (show b = 1 ∨ (b ≠ 1 ∧ b = 2) ∨ (b ≠ 1 ∧ b ≠ 2) by omega) with hb1 | ⟨hb1, hb2⟩ | ⟨hb1, hb2⟩
            · subst hb1
              obtain ⟨g1, o1, rfl⟩ := H1.out.at2.ls_rd.some_ (by simp; omega)
              obtain ⟨g2, o2, rfl⟩ := H1.out.at3.ls_rd.some_ (by simp; omega)
              go_wp2_with fail
              refine (cloud_pick9 p d 1 xs k m _ _ _ H1.out.at1 hx0 (by omega) hk1.out hm.out).mono ?_
              rintro e1 w1 ⟨rfl, H⟩
              clear s0 s1 s2
              have x2 : w1.cell? ⟨wr.heap.size, 2, none⟩ = some (.int .i64 d) := H.at1.cellOf 2 rfl
              have x1 : w1.cell? ⟨wr.heap.size, 1, none⟩ = some (.int .i64 1) := H.at1.cellOf 1 rfl
              have y1 : w1.cell? ⟨g1, o1 + k, none⟩ = some (.int .i64 m.1) := by have := H.at2.ls_rd.cell (map_zip hm.out).1 0 rfl; simpa [Enc.num] using this
              have y2 : w1.cell? ⟨g2, o2 + k, none⟩ = some (.int .i64 m.2) := by have := H.at3.ls_rd.cell (map_zip hm.out).2 0 rfl; simpa [Enc.num] using this
              have hk0 : (0 : Int) ≤ (k : Int) := by omega
              have hkn : (k : Int) < (xs.length : Int) := by omega
              go_wp2_with fail
              refine (place10 d xs.length _ (by omega) (by omega) (by omega) (by omega)).mono ?_
              rw [← hk1.out]
              rintro e1 w2 ⟨rfl, rfl⟩
              go_wp2_with fail
              refine (cloud_len11 p xs _ _ _ H).mono ?_
              rintro e1 w3 ⟨rfl, rfl⟩
              go_wp2_with fail
              go_roundg (n - (j + 1))
              case measure => have := hk.out; omega
              case rel => exact ⟨j + 1, xs, by have := hk.out; omega, by go_num, by omega, H.at1.drop⟩
            · subst hb2
              obtain ⟨g1, o1, rfl⟩ := H1.out.at2.ls_rd.some_ (by simp; omega)
              obtain ⟨g2, o2, rfl⟩ := H1.out.at3.ls_rd.some_ (by simp; omega)
              go_wp2_with fail
              refine (cloud_pick9 p d 2 xs k m _ _ _ H1.out.at1 hx0 (by omega) hk1.out hm.out).mono ?_
              rintro e1 w1 ⟨rfl, H⟩
              rw [if_neg hb1] at H
              clear s0 s1 s2
              have x2 : w1.cell? ⟨wr.heap.size, 2, none⟩ = some (.int .i64 d) := H.at1.cellOf 2 rfl
              have x1 : w1.cell? ⟨wr.heap.size, 1, none⟩ = some (.int .i64 2) := H.at1.cellOf 1 rfl
              have y1 : w1.cell? ⟨g1, o1 + k, none⟩ = some (.int .i64 m.1) := by have := H.at2.ls_rd.cell (map_zip hm.out).1 0 rfl; simpa [Enc.num] using this
              have y2 : w1.cell? ⟨g2, o2 + k, none⟩ = some (.int .i64 m.2) := by have := H.at3.ls_rd.cell (map_zip hm.out).2 0 rfl; simpa [Enc.num] using this
              have hk0 : (0 : Int) ≤ (k : Int) := by omega
              have hkn : (k : Int) < (xs.length : Int) := by omega
              go_wp2_with fail
              refine (place10 d xs.length _ (by omega) (by omega) (by omega) (by omega)).mono ?_
              rw [← hk1.out]
              rintro e1 w2 ⟨rfl, rfl⟩
              obtain ⟨B1, hB1, cut1⟩ := cut_drop1 Try.prog 26 3 1 Try.underlying26 (by kernel_rfl) (some ⟨g1, o1, none⟩) xs.length c1 k (by omega)
              obtain ⟨B2, hB2, cut2⟩ := cut_drop1 Try.prog 26 3 1 Try.underlying26 (by kernel_rfl) (some ⟨g2, o2, none⟩) xs.length c2 k (by omega)
              have hkc1 : (k : Int) ≤ (c1 : Int) := by omega
              have hwr : IntKind.i64.wrap ((k : Int) + 1) = (k : Int) + 1 := by rw [IntKind.wrap_i64]; omega
              have hkc2 : (k : Int) ≤ (c2 : Int) := by omega
              go_upto_region 22 with (fail)
              have r1 : Hid (RdL (Enc.num .i64) w1.drew (.slice (some ⟨g1, o1, none⟩) k c1) ((xs.map fun q : Int × Int => q.1).take k)) := H.at2.ls_rd.drew.take k (by omega)
              have l1 : Hid (([] : List Int).length + ((xs.map fun q : Int × Int => q.1).take k).length = k) := by show _ = _; simp; omega
              have l2 : Hid (([] ++ (xs.map fun q : Int × Int => q.1).take k).length + ((xs.map fun q : Int × Int => q.1).drop (k + 1)).length = xs.length - 1) := by show _ = _; simp; omega
              replace H := Lib.hid ((H.drew.ls_nil (Enc.num .i64) 3))
              go_region_held3 (fun _ => True) (trivial) (first
                | (refine step_appendN (E := Enc.num .i64) (v := .slice none 0 0) k (by rfl) (.const (.slice none 0 0)) (.tmp 125) 26 (by rfl) 3 _ 1 8 Try.underlying26 info30 rfl (by decide) (by decide) rfl (by rfl) (.slice (some ⟨g1, o1, none⟩) k c1) (by rfl) H.out r1.out (by omega) l1.out ?_; intro A5 c5 w5 H5)
                | (refine step_appendN (E := Enc.num .i64) (v := .slice A5 k c5) (xs.length - 1) (by rfl) (.tmp 126) (.tmp 130) 26 (by rfl) 3 _ 1 8 Try.underlying26 info30 rfl (by decide) (by decide) rfl (by rfl) (.slice B1 (xs.length - (k + 1)) (c1 - (k + 1))) (by rfl) H5 (RdL.dropA (sz := 1) (xs := xs.map fun q : Int × Int => q.1) H5.at3.ls_rd (by omega) rfl hB1) (by omega) l2.out ?_; intro A6 c6 w6 H6))
              go_upto_region 23 with (fail)
              have r2 : Hid (RdL (Enc.num .i64) w6.drew (.slice (some ⟨g2, o2, none⟩) k c2) ((xs.map fun q : Int × Int => q.2).take k)) := H6.at4.ls_rd.drew.take k (by omega)
              have l3 : Hid (([] : List Int).length + ((xs.map fun q : Int × Int => q.2).take k).length = k) := by show _ = _; simp; omega
              have l4 : Hid (([] ++ (xs.map fun q : Int × Int => q.2).take k).length + ((xs.map fun q : Int × Int => q.2).drop (k + 1)).length = xs.length - 1) := by show _ = _; simp; omega
              have H7 := Lib.hid (H6.drew.ls_nil (Enc.num .i64) 3)
              go_region_held3 (fun _ => True) (trivial) (first
                | (refine step_appendN (E := Enc.num .i64) (v := .slice none 0 0) k (by rfl) (.const (.slice none 0 0)) (.tmp 134) 26 (by rfl) 3 _ 1 8 Try.underlying26 info30 rfl (by decide) (by decide) rfl (by rfl) (.slice (some ⟨g2, o2, none⟩) k c2) (by rfl) H7.out r2.out (by omega) l3.out ?_; intro A7 c7 w7 H8)
                | (refine step_appendN (E := Enc.num .i64) (v := .slice A7 k c7) (xs.length - 1) (by rfl) (.tmp 135) (.tmp 139) 26 (by rfl) 3 _ 1 8 Try.underlying26 info30 rfl (by decide) (by decide) rfl (by rfl) (.slice B2 (xs.length - (k + 1)) (c2 - (k + 1))) (by rfl) H8 (RdL.dropA (sz := 1) (xs := xs.map fun q : Int × Int => q.2) H8.at5.ls_rd (by omega) rfl hB2) (by omega) l4.out ?_; intro A8 c8 w8 H9))
              have HC : Hid (Hs w w8 [Cloud p (xs.eraseIdx k), Ls (Enc.num .i64) 3 (.slice A6 (xs.length - 1) c6) ((xs.eraseIdx k).map (·.1)), Ls (Enc.num .i64) 3 (.slice A8 (xs.length - 1) c8) ((xs.eraseIdx k).map (·.2)), Old w]) := by
                have H := (H9.ls_eq (map_erase (fun q : Int × Int => q.2) xs k)).at1.ls_eq (map_erase (fun q : Int × Int => q.1) xs k)
                show Hs _ _ _
                (refine Hs.conseq H fun h s => ?_; refine Sep.pickc (by first | with_reducible exact s | with_reducible exact s.at1 | with_reducible exact s.at2 | with_reducible exact s.at3 | with_reducible exact s.at4 | with_reducible exact s.at5 | with_reducible exact s.at6 | with_reducible exact s.at7) (fun h s => ?_); refine Sep.pickc (by first | with_reducible exact s | with_reducible exact s.at1 | with_reducible exact s.at2 | with_reducible exact s.at3 | with_reducible exact s.at4 | with_reducible exact s.at5 | with_reducible exact s.at6 | with_reducible exact s.at7) (fun h s => ?_); refine Sep.pickc (by first | with_reducible exact s | with_reducible exact s.at1 | with_reducible exact s.at2 | with_reducible exact s.at3 | with_reducible exact s.at4 | with_reducible exact s.at5 | with_reducible exact s.at6 | with_reducible exact s.at7) (fun h s => ?_); refine Sep.pickc (by first | with_reducible exact s | with_reducible exact s.at1 | with_reducible exact s.at2 | with_reducible exact s.at3 | with_reducible exact s.at4 | with_reducible exact s.at5 | with_reducible exact s.at6 | with_reducible exact s.at7) (fun h s => ?_); trivial)
              have hel : Hid ((xs.eraseIdx k).length = xs.length - 1) := by show _ = _; rw [List.length_eraseIdx, if_pos hklt]
              clear H9 H8 H7 H6 H5 H r1 r2 l1 l2 l3 l4
              go_wp2_with fail
              refine (cloud_len11 p (xs.eraseIdx k) _ _ _ HC.out).mono ?_
              rw [hel.out]
              rintro e1 w9 ⟨rfl, rfl⟩
              go_wp2_with fail
              go_roundg (n - (j + 1))
              case measure => have := hk.out; omega
              case rel => exact ⟨j + 1, xs.eraseIdx k, by have := hk.out; omega, by go_num, by rw [hel.out]; omega, HC⟩
            · have hb3 : (b != 1) = true := by rw [bne_iff_ne]; exact hb1
              have hb4 : (b != 2) = true := by rw [bne_iff_ne]; exact hb2
              obtain ⟨g1, o1, rfl⟩ := H1.out.at2.ls_rd.some_ (by simp; omega)
              obtain ⟨g2, o2, rfl⟩ := H1.out.at3.ls_rd.some_ (by simp; omega)
              go_wp2_with fail
              refine (cloud_pick9 p d b xs k m _ _ _ H1.out.at1 hx0 (by omega) hk1.out hm.out).mono ?_
              rintro e1 w1 ⟨rfl, H⟩
              rw [if_neg hb1] at H
              clear s0 s1 s2
              have x2 : w1.cell? ⟨wr.heap.size, 2, none⟩ = some (.int .i64 d) := H.at1.cellOf 2 rfl
              have x1 : w1.cell? ⟨wr.heap.size, 1, none⟩ = some (.int .i64 b) := H.at1.cellOf 1 rfl
              have y1 : w1.cell? ⟨g1, o1 + k, none⟩ = some (.int .i64 m.1) := by have := H.at2.ls_rd.cell (map_zip hm.out).1 0 rfl; simpa [Enc.num] using this
              have y2 : w1.cell? ⟨g2, o2 + k, none⟩ = some (.int .i64 m.2) := by have := H.at3.ls_rd.cell (map_zip hm.out).2 0 rfl; simpa [Enc.num] using this
              have hk0 : (0 : Int) ≤ (k : Int) := by omega
              have hkn : (k : Int) < (xs.length : Int) := by omega
              go_wp2_with fail
              refine (place10 d xs.length _ (by omega) (by omega) (by omega) (by omega)).mono ?_
              rw [← hk1.out]
              rintro e1 w2 ⟨rfl, rfl⟩
              obtain ⟨B1, hB1, cut1⟩ := cut_drop1 Try.prog 26 3 1 Try.underlying26 (by kernel_rfl) (some ⟨g1, o1, none⟩) xs.length c1 k (by omega)
              obtain ⟨B2, hB2, cut2⟩ := cut_drop1 Try.prog 26 3 1 Try.underlying26 (by kernel_rfl) (some ⟨g2, o2, none⟩) xs.length c2 k (by omega)
              have hkc1 : (k : Int) ≤ (c1 : Int) := by omega
              have hwr : IntKind.i64.wrap ((k : Int) + 1) = (k : Int) + 1 := by rw [IntKind.wrap_i64]; omega
              have hkc2 : (k : Int) ≤ (c2 : Int) := by omega
              go_upto_region 22 with (fail)
              have r1 : Hid (RdL (Enc.num .i64) w1.drew (.slice (some ⟨g1, o1, none⟩) k c1) ((xs.map fun q : Int × Int => q.1).take k)) := H.at2.ls_rd.drew.take k (by omega)
              have l1 : Hid (([] : List Int).length + ((xs.map fun q : Int × Int => q.1).take k).length = k) := by show _ = _; simp; omega
              have l2 : Hid (([] ++ (xs.map fun q : Int × Int => q.1).take k).length + ((xs.map fun q : Int × Int => q.1).drop (k + 1)).length = xs.length - 1) := by show _ = _; simp; omega
              replace H := Lib.hid ((H.drew.ls_nil (Enc.num .i64) 3))
              go_region_held3 (fun _ => True) (trivial) (first
                | (refine step_appendN (E := Enc.num .i64) (v := .slice none 0 0) k (by rfl) (.const (.slice none 0 0)) (.tmp 125) 26 (by rfl) 3 _ 1 8 Try.underlying26 info30 rfl (by decide) (by decide) rfl (by rfl) (.slice (some ⟨g1, o1, none⟩) k c1) (by rfl) H.out r1.out (by omega) l1.out ?_; intro A5 c5 w5 H5)
                | (refine step_appendN (E := Enc.num .i64) (v := .slice A5 k c5) (xs.length - 1) (by rfl) (.tmp 126) (.tmp 130) 26 (by rfl) 3 _ 1 8 Try.underlying26 info30 rfl (by decide) (by decide) rfl (by rfl) (.slice B1 (xs.length - (k + 1)) (c1 - (k + 1))) (by rfl) H5 (RdL.dropA (sz := 1) (xs := xs.map fun q : Int × Int => q.1) H5.at3.ls_rd (by omega) rfl hB1) (by omega) l2.out ?_; intro A6 c6 w6 H6))
              go_upto_region 23 with (fail)
              have r2 : Hid (RdL (Enc.num .i64) w6.drew (.slice (some ⟨g2, o2, none⟩) k c2) ((xs.map fun q : Int × Int => q.2).take k)) := H6.at4.ls_rd.drew.take k (by omega)
              have l3 : Hid (([] : List Int).length + ((xs.map fun q : Int × Int => q.2).take k).length = k) := by show _ = _; simp; omega
              have l4 : Hid (([] ++ (xs.map fun q : Int × Int => q.2).take k).length + ((xs.map fun q : Int × Int => q.2).drop (k + 1)).length = xs.length - 1) := by show _ = _; simp; omega
              have H7 := Lib.hid (H6.drew.ls_nil (Enc.num .i64) 3)
              go_region_held3 (fun _ => True) (trivial) (first
                | (refine step_appendN (E := Enc.num .i64) (v := .slice none 0 0) k (by rfl) (.const (.slice none 0 0)) (.tmp 134) 26 (by rfl) 3 _ 1 8 Try.underlying26 info30 rfl (by decide) (by decide) rfl (by rfl) (.slice (some ⟨g2, o2, none⟩) k c2) (by rfl) H7.out r2.out (by omega) l3.out ?_; intro A7 c7 w7 H8)
                | (refine step_appendN (E := Enc.num .i64) (v := .slice A7 k c7) (xs.length - 1) (by rfl) (.tmp 135) (.tmp 139) 26 (by rfl) 3 _ 1 8 Try.underlying26 info30 rfl (by decide) (by decide) rfl (by rfl) (.slice B2 (xs.length - (k + 1)) (c2 - (k + 1))) (by rfl) H8 (RdL.dropA (sz := 1) (xs := xs.map fun q : Int × Int => q.2) H8.at5.ls_rd (by omega) rfl hB2) (by omega) l4.out ?_; intro A8 c8 w8 H9))
              have HC : Hid (Hs w w8 [Cloud p (xs.eraseIdx k), Ls (Enc.num .i64) 3 (.slice A6 (xs.length - 1) c6) ((xs.eraseIdx k).map (·.1)), Ls (Enc.num .i64) 3 (.slice A8 (xs.length - 1) c8) ((xs.eraseIdx k).map (·.2)), Old w]) := by
                have H := (H9.ls_eq (map_erase (fun q : Int × Int => q.2) xs k)).at1.ls_eq (map_erase (fun q : Int × Int => q.1) xs k)
                show Hs _ _ _
                (refine Hs.conseq H fun h s => ?_; refine Sep.pickc (by first | with_reducible exact s | with_reducible exact s.at1 | with_reducible exact s.at2 | with_reducible exact s.at3 | with_reducible exact s.at4 | with_reducible exact s.at5 | with_reducible exact s.at6 | with_reducible exact s.at7) (fun h s => ?_); refine Sep.pickc (by first | with_reducible exact s | with_reducible exact s.at1 | with_reducible exact s.at2 | with_reducible exact s.at3 | with_reducible exact s.at4 | with_reducible exact s.at5 | with_reducible exact s.at6 | with_reducible exact s.at7) (fun h s => ?_); refine Sep.pickc (by first | with_reducible exact s | with_reducible exact s.at1 | with_reducible exact s.at2 | with_reducible exact s.at3 | with_reducible exact s.at4 | with_reducible exact s.at5 | with_reducible exact s.at6 | with_reducible exact s.at7) (fun h s => ?_); refine Sep.pickc (by first | with_reducible exact s | with_reducible exact s.at1 | with_reducible exact s.at2 | with_reducible exact s.at3 | with_reducible exact s.at4 | with_reducible exact s.at5 | with_reducible exact s.at6 | with_reducible exact s.at7) (fun h s => ?_); trivial)
              have hel : Hid ((xs.eraseIdx k).length = xs.length - 1) := by show _ = _; rw [List.length_eraseIdx, if_pos hklt]
              clear H9 H8 H7 H6 H5 H r1 r2 l1 l2 l3 l4
              go_wp2_with fail
              refine (cloud_len11 p (xs.eraseIdx k) _ _ _ HC.out).mono ?_
              rw [hel.out]
              rintro e1 w9 ⟨rfl, rfl⟩
              go_wp2_with fail
              go_roundg (n - (j + 1))
              case measure => have := hk.out; omega
              case rel => exact ⟨j + 1, xs.eraseIdx k, by have := hk.out; omega, by go_num, by rw [hel.out]; omega, HC⟩
      · go_wp2_with fail
        go_ret
        exact ⟨rfl, below_of H.out.at3⟩
end Go.Proofs.Ytlaicngliopjoaa

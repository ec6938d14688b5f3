import Derived.Test.YtbifajiigpalhaaKn
import Derived.Test.YtbifajiigpalhaaNe
import Derived.Test.YtbifajiigpalhaaFb
import Derived.Test.YtbifajiigpalhaaFc
import Derived.Test.YtbifajiigpalhaaEq
import Derived.Test.YtbifajiigpalhaaPu
import Derived.IntWalk
import Derived.Test.YtbifajiigpalhaaProg
import Derived.Test.YtbifajiigpalhaaLs
import Derived.Outline
import Derived.StillTailTactics
import Derived.Deep.DeepCutAuto
import Derived.Deep.CutBlock
import Derived.Deep.LoopGhost
import Derived.Deep.QuietTactic
import Derived.BigQuiet
import Derived.Deep.RegionHeld3
import Derived.Deep.RegionLaw
set_option linter.unusedVariables false
set_option linter.unusedSimpArgs false
namespace Go.Proofs.Ytbifajiigpalhaa
open Go.RowKit
theorem chans_le {zs : List Nd} (hok : JobOk zs) : (chans zs).length ≤ 1000000 := by
  have hT := tasks_len zs
  have hN := hok.few
  have hc : ∀ p : Int × Int → Bool, (chosen p (tasks zs)).length ≤ 48 := fun p => by have := chosen_len p (tasks zs); omega
  have h1 : ∀ (all : Bool) (f : Int) (a : Nat) (t : Int), (chn1 (tasks zs) all f a t).length ≤ 1 := fun all f a t => by unfold chn1; split <;> simp
  have h2 : ∀ (all : Bool) (i a : Nat) (f : Int), (chn2 (tasks zs) all i a f).length ≤ 48 := fun all i a f => by
    have := flatMap_len (chn1 (tasks zs) all f a) (chosen (fun x => x.1 == (i : Int)) (tasks zs)) 1 (fun t _ => h1 all f a t)
    have := hc (fun x => x.1 == (i : Int))
    unfold chn2
    omega
  have h3 : ∀ (i : Nat) (z : Nd) (x : Int × Nat), (chn3 zs (tasks zs) i z x).length ≤ 2304 := fun i z x => by
    unfold chn3
    split
    · have := flatMap_len (chn2 (tasks zs) (keyed zs i || parOf zs x.1 != z.par) i x.2) (chosen (fun y => y.1 == x.1) (tasks zs)) 48 (fun f _ => h2 _ i x.2 f)
      have := hc (fun y => y.1 == x.1)
      omega
    · simp
  have h4 : ∀ x ∈ zs.zipIdx, (chn4 zs (tasks zs) x).length ≤ 9216 := fun x hx => by
    have hz : x.1 ∈ zs := (List.mem_zipIdx hx).2.2 ▸ List.getElem_mem _
    have := (hok.node x.1 hz).few
    have := flatMap_len (chn3 zs (tasks zs) x.2 x.1) x.1.2.zipIdx 2304 (fun y _ => h3 x.2 x.1 y)
    rw [List.length_zipIdx] at this
    unfold chn4
    omega
  have := flatMap_len (chn4 zs (tasks zs)) zs.zipIdx 9216 h4
  rw [List.length_zipIdx] at this
  unfold chans
  omega
/-- Two like lists are the same. -/
theorem eqsame13 (v1 v2 : Value) (xs : List Int) (w w0 : World) (R : List HP) (H : Hs w0 w R) (h1 : RdL (Enc.num .i64) w v1 xs) (h2 : RdL (Enc.num .i64) w v2 xs) :
    Calls Try.prog 13 #[v1, v2] w fun e w' => e = .returned (.bool true) ∧ Hs w0 w' R := by
  refine (eqlist13 v1 v2 xs xs w h1 h2).mono ?_
  rintro e w' ⟨rfl, n, rfl⟩
  exact ⟨by rw [decide_eq_true rfl], H.drewN n⟩
set_option maxRecDepth 100000 in
set_option maxHeartbeats 4000000 in
theorem planmake_walk (jv : Value) (zs : List Nd) (W : World) (hx : JobX W jv zs) : Calls Try.prog 3 #[.agg #[jv]] W fun e w' => e = .returned (.bool true) ∧ Below W.heap.size W w' := by
  obtain ⟨Aj, cj, hv⟩ := hx.job.form
  subst hv
  have hcj := hx.job.1.caps.2
  obtain ⟨N, hN⟩ : ∃ N, zs.length = N := ⟨_, rfl⟩
  have JJ : Hid (∀ w', Hs W w' [Old W] → JobR w' (.slice Aj N cj) zs) := fun w' h => by
    have := hx.job
    rw [hN] at this
    exact this.step ((Kept.refl W).hs h)
  have F9 := Lib.hid (fun w hk => fit9 (.slice Aj zs.length cj) zs hx w hk)
  have H := Lib.hid ((Hs.start W).alloc (.cells #[.slice Aj zs.length cj] 24))
  rw [hN] at hcj F9 H ⊢
  replace hN := Lib.hid hN
  clear hx
  go_enter Try.func3, Try.ntmps3
  go_upto_region 1 with (fail)
  generalize World.alloc W _ = w1 at H ⊢
  generalize W.heap.size = b at H ⊢
  go_wp2_with fail
  refine (known8 w1 W _ H.out).mono ?_
  rintro e w2 ⟨rfl, H2⟩
  have b0 : w2.cell? ⟨b, 0, none⟩ = some (.slice Aj N cj) := H2.cellOf 0 rfl
  replace H2 := Lib.hid H2
  clear H
  go_wp2_with fail
  refine (F9.out w2 ((Kept.refl W).hs H2.out.tail)).mono ?_
  rintro e w3 ⟨r, rfl, hr, hb⟩
  have H3 := Lib.hid (H2.out.below hb)
  replace hr := Lib.hid hr
  clear hb H2 b0 F9
  cases r with
  | false =>
    go_wp2_with fail
    go_ret
    exact ⟨rfl, H3.out.tail.under_old⟩
  | true =>
  have hok : Hid (JobOk zs) := hr.out rfl
  clear hr
  have b0 : w3.cell? ⟨b, 0, none⟩ = some (.slice Aj N cj) := H3.out.cellOf 0 rfl
  have hN12 : N ≤ 12 := by have := hok.out.few; have := hN.out; omega
  obtain ⟨T, hT⟩ : ∃ T, tasks zs = T := ⟨_, rfl⟩
  obtain ⟨Cs, hC⟩ : ∃ T, chans zs = T := ⟨_, rfl⟩
  obtain ⟨nT, hnT⟩ : ∃ n, T.length = n := ⟨_, rfl⟩
  obtain ⟨nC, hnC⟩ : ∃ n, Cs.length = n := ⟨_, rfl⟩
  replace hT := Lib.hid hT
  replace hC := Lib.hid hC
  replace hnT := Lib.hid hnT
  replace hnC := Lib.hid hnC
  go_upto_region 5 with (fail)
  go_cut [3, 4] (fun pv qv wc => ∃ (p q : Nat) (AT : Option Addr) (cT : Nat) (AC : Option Addr) (cC : Nat) (BT : Option Addr) (dT : Nat) (BC : Option Addr) (dC : Nat), pv = .pointer (some ⟨p, 0, none⟩) ∧ qv = .pointer (some ⟨q, 0, none⟩) ∧ Hid (Hs W wc [Blk p (.cells #[.slice AT nT cT, .slice AC nC cC] 30), Blk q (.cells #[.slice BT nT dT, .slice BC nC dC] 30), Ls ETask 42 (.slice AT nT cT) T, Ls EChn 40 (.slice AC nC cC) Cs, Ls ETask 42 (.slice BT nT dT) T, Ls EChn 40 (.slice BC nC dC) Cs, Blk b (.cells #[.slice Aj N cj] 24), Old W]))
  case first =>
    refine wp_region_left (S := fun w' : World => w'.cell? ⟨b, 0, none⟩ = some (.slice Aj N cj)) 7 mixed ?_
    have hS : (fun w' : World => w'.cell? ⟨b, 0, none⟩ = some (.slice Aj N cj)) w3.drew := by exact H3.out.drew.cellOf 0 rfl
    have H1 := Lib.hid H3.out.drew
    generalize w3.drew = wy at H1 hS ⊢
    clear H3
    refine Left.take (i := 0) (v := ?vm5_0_1) rfl (by kernel_rfl) (fun _ _ _ h => h) hS (Or.inl ⟨by kernel_rfl, fun w hSw => ?hym5_0_1⟩) ?restm5_0_1
    case hym5_0_1 => ((try dsimp only at hSw); go_simp; try with_reducible rfl)
    try simp only [Act.put, List.setIfInBounds_toArray, List.set_cons_zero, List.set_cons_succ]
    refine Left.take (i := 2) (v := ?vm5_2_2) rfl (by kernel_rfl) (fun _ _ _ h => h) hS (Or.inl ⟨by kernel_rfl, fun w hSw => ?hym5_2_2⟩) ?restm5_2_2
    case hym5_2_2 => ((try dsimp only at hSw); go_simp; try with_reducible rfl)
    try simp only [Act.put, List.setIfInBounds_toArray, List.set_cons_zero, List.set_cons_succ]
    refine Left.three (i := 1) (j := 4) (l := 5) rfl rfl rfl (by kernel_rfl) (fun K hK => ?_) (fun K hK => ?_) (fun K hK => ?_)
    · skip
      go_simp
      go_at_call 10
      refine (make10 (.slice Aj N cj) zs wy W _ H1.out (fun w' h => JJ.out w' h.tail) (by rw [hN.out]; omega) (fun z hz => by have := (hok.out.node z hz).few; omega)).mono ?_
      rintro e wy ⟨AT, cT, AC, cC, rfl, H2⟩
      rw [hT.out, hC.out, hnT.out, hnC.out] at H2 ⊢
      clear H1 hS
      have H1 : Hid (Hs W wy [Ls ETask 42 (.slice AT nT cT) T, Ls EChn 40 (.slice AC nC cC) Cs, Blk b (.cells #[.slice Aj N cj] 24), Old W]) := Lib.hid ((by refine Hs.conseq (H2) fun h s => ?_; refine Sep.pickc (by first | with_reducible exact s | with_reducible exact s.at1 | with_reducible exact s.at2 | with_reducible exact s.at3 | with_reducible exact s.at4 | with_reducible exact s.at5 | with_reducible exact s.at6 | with_reducible exact s.at7) (fun h s => ?_); refine Sep.pickc (by first | with_reducible exact s | with_reducible exact s.at1 | with_reducible exact s.at2 | with_reducible exact s.at3 | with_reducible exact s.at4 | with_reducible exact s.at5 | with_reducible exact s.at6 | with_reducible exact s.at7) (fun h s => ?_); refine Sep.pickc (by first | with_reducible exact s | with_reducible exact s.at1 | with_reducible exact s.at2 | with_reducible exact s.at3 | with_reducible exact s.at4 | with_reducible exact s.at5 | with_reducible exact s.at6 | with_reducible exact s.at7) (fun h s => ?_); refine Sep.pickc (by first | with_reducible exact s | with_reducible exact s.at1 | with_reducible exact s.at2 | with_reducible exact s.at3 | with_reducible exact s.at4 | with_reducible exact s.at5 | with_reducible exact s.at6 | with_reducible exact s.at7) (fun h s => ?_); trivial))
      clear H2
      go_simp
      replace hS : (fun w' : World => w'.cell? ⟨b, 0, none⟩ = some (.slice Aj N cj)) wy := by exact H1.out.at2.cellOf 0 rfl
      refine hK.out _ _ (Or.inr hS) ?_
      clear hK K
      try simp only [Act.put, List.setIfInBounds_toArray, List.set_cons_zero, List.set_cons_succ]
      refine Left.three (i := 3) (j := 4) (l := 5) rfl rfl rfl (by kernel_rfl) (fun K hK => ?_) (fun K hK => ?_) (fun K hK => ?_)
      · skip
        go_simp
        go_at_call 11
        refine (refmake11 (.slice Aj N cj) zs wy W _ H1.out (fun w' h => JJ.out w' h.tail.tail.tail) hok.out).mono ?_
        rintro e wy ⟨BT, dT, BC, dC, rfl, H2⟩
        rw [hT.out, hC.out, hnT.out, hnC.out] at H2 ⊢
        clear H1 hS
        have H1 : Hid (Hs W wy [Ls ETask 42 (.slice AT nT cT) T, Ls EChn 40 (.slice AC nC cC) Cs, Ls ETask 42 (.slice BT nT dT) T, Ls EChn 40 (.slice BC nC dC) Cs, Blk b (.cells #[.slice Aj N cj] 24), Old W]) := Lib.hid ((by refine Hs.conseq (H2) fun h s => ?_; refine Sep.pickc (by first | with_reducible exact s | with_reducible exact s.at1 | with_reducible exact s.at2 | with_reducible exact s.at3 | with_reducible exact s.at4 | with_reducible exact s.at5 | with_reducible exact s.at6 | with_reducible exact s.at7) (fun h s => ?_); refine Sep.pickc (by first | with_reducible exact s | with_reducible exact s.at1 | with_reducible exact s.at2 | with_reducible exact s.at3 | with_reducible exact s.at4 | with_reducible exact s.at5 | with_reducible exact s.at6 | with_reducible exact s.at7) (fun h s => ?_); refine Sep.pickc (by first | with_reducible exact s | with_reducible exact s.at1 | with_reducible exact s.at2 | with_reducible exact s.at3 | with_reducible exact s.at4 | with_reducible exact s.at5 | with_reducible exact s.at6 | with_reducible exact s.at7) (fun h s => ?_); refine Sep.pickc (by first | with_reducible exact s | with_reducible exact s.at1 | with_reducible exact s.at2 | with_reducible exact s.at3 | with_reducible exact s.at4 | with_reducible exact s.at5 | with_reducible exact s.at6 | with_reducible exact s.at7) (fun h s => ?_); refine Sep.pickc (by first | with_reducible exact s | with_reducible exact s.at1 | with_reducible exact s.at2 | with_reducible exact s.at3 | with_reducible exact s.at4 | with_reducible exact s.at5 | with_reducible exact s.at6 | with_reducible exact s.at7) (fun h s => ?_); refine Sep.pickc (by first | with_reducible exact s | with_reducible exact s.at1 | with_reducible exact s.at2 | with_reducible exact s.at3 | with_reducible exact s.at4 | with_reducible exact s.at5 | with_reducible exact s.at6 | with_reducible exact s.at7) (fun h s => ?_); trivial))
        clear H2
        go_simp
        replace hS : (fun w' : World => w'.cell? ⟨b, 0, none⟩ = some (.slice Aj N cj)) wy := by exact H1.out.at4.cellOf 0 rfl
        refine hK.out _ _ (Or.inr hS) ?_
        clear hK K
        try simp only [Act.put, List.setIfInBounds_toArray, List.set_cons_zero, List.set_cons_succ]
        refine Left.two (i := 4) (j := 5) rfl rfl (by kernel_rfl) (fun K hK => ?_) (fun K hK => ?_)
        · skip
          have H2 := Lib.hid (H1.out.alloc (.cells #[.slice none 0 0, .slice none 0 0] 30))
          go_simp
          generalize wy.heap.size = p at H2 ⊢
          generalize World.alloc wy _ = wy at H2 ⊢
          clear H1 hS
          have H1 : Hid (Hs W wy [Blk p (.cells #[.slice none 0 0, .slice none 0 0] 30), Ls ETask 42 (.slice AT nT cT) T, Ls EChn 40 (.slice AC nC cC) Cs, Ls ETask 42 (.slice BT nT dT) T, Ls EChn 40 (.slice BC nC dC) Cs, Blk b (.cells #[.slice Aj N cj] 24), Old W]) := Lib.hid ((by refine Hs.conseq (H2.out) fun h s => ?_; refine Sep.pickc (by first | with_reducible exact s | with_reducible exact s.at1 | with_reducible exact s.at2 | with_reducible exact s.at3 | with_reducible exact s.at4 | with_reducible exact s.at5 | with_reducible exact s.at6 | with_reducible exact s.at7) (fun h s => ?_); refine Sep.pickc (by first | with_reducible exact s | with_reducible exact s.at1 | with_reducible exact s.at2 | with_reducible exact s.at3 | with_reducible exact s.at4 | with_reducible exact s.at5 | with_reducible exact s.at6 | with_reducible exact s.at7) (fun h s => ?_); refine Sep.pickc (by first | with_reducible exact s | with_reducible exact s.at1 | with_reducible exact s.at2 | with_reducible exact s.at3 | with_reducible exact s.at4 | with_reducible exact s.at5 | with_reducible exact s.at6 | with_reducible exact s.at7) (fun h s => ?_); refine Sep.pickc (by first | with_reducible exact s | with_reducible exact s.at1 | with_reducible exact s.at2 | with_reducible exact s.at3 | with_reducible exact s.at4 | with_reducible exact s.at5 | with_reducible exact s.at6 | with_reducible exact s.at7) (fun h s => ?_); refine Sep.pickc (by first | with_reducible exact s | with_reducible exact s.at1 | with_reducible exact s.at2 | with_reducible exact s.at3 | with_reducible exact s.at4 | with_reducible exact s.at5 | with_reducible exact s.at6 | with_reducible exact s.at7) (fun h s => ?_); refine Sep.pickc (by first | with_reducible exact s | with_reducible exact s.at1 | with_reducible exact s.at2 | with_reducible exact s.at3 | with_reducible exact s.at4 | with_reducible exact s.at5 | with_reducible exact s.at6 | with_reducible exact s.at7) (fun h s => ?_); refine Sep.pickc (by first | with_reducible exact s | with_reducible exact s.at1 | with_reducible exact s.at2 | with_reducible exact s.at3 | with_reducible exact s.at4 | with_reducible exact s.at5 | with_reducible exact s.at6 | with_reducible exact s.at7) (fun h s => ?_); trivial))
          clear H2
          replace hS : (fun w' : World => w'.cell? ⟨b, 0, none⟩ = some (.slice Aj N cj)) wy := by exact H1.out.at5.cellOf 0 rfl
          refine hK.out _ _ (Or.inr hS) ?_
          clear hK K
          try simp only [Act.put, List.setIfInBounds_toArray, List.set_cons_zero, List.set_cons_succ]
          refine Left.run (i := 5) rfl (by kernel_rfl) (fun K hK => ?_)
          have H2 := Lib.hid (H1.out.alloc (.cells #[.slice none 0 0, .slice none 0 0] 30))
          go_simp
          generalize wy.heap.size = q at H2 ⊢
          generalize World.alloc wy _ = wy at H2 ⊢
          clear H1 hS
          have H1 : Hid (Hs W wy [Blk p (.cells #[.slice none 0 0, .slice none 0 0] 30), Blk q (.cells #[.slice none 0 0, .slice none 0 0] 30), Ls ETask 42 (.slice AT nT cT) T, Ls EChn 40 (.slice AC nC cC) Cs, Ls ETask 42 (.slice BT nT dT) T, Ls EChn 40 (.slice BC nC dC) Cs, Blk b (.cells #[.slice Aj N cj] 24), Old W]) := Lib.hid ((by refine Hs.conseq (H2.out) fun h s => ?_; refine Sep.pickc (by first | with_reducible exact s | with_reducible exact s.at1 | with_reducible exact s.at2 | with_reducible exact s.at3 | with_reducible exact s.at4 | with_reducible exact s.at5 | with_reducible exact s.at6 | with_reducible exact s.at7) (fun h s => ?_); refine Sep.pickc (by first | with_reducible exact s | with_reducible exact s.at1 | with_reducible exact s.at2 | with_reducible exact s.at3 | with_reducible exact s.at4 | with_reducible exact s.at5 | with_reducible exact s.at6 | with_reducible exact s.at7) (fun h s => ?_); refine Sep.pickc (by first | with_reducible exact s | with_reducible exact s.at1 | with_reducible exact s.at2 | with_reducible exact s.at3 | with_reducible exact s.at4 | with_reducible exact s.at5 | with_reducible exact s.at6 | with_reducible exact s.at7) (fun h s => ?_); refine Sep.pickc (by first | with_reducible exact s | with_reducible exact s.at1 | with_reducible exact s.at2 | with_reducible exact s.at3 | with_reducible exact s.at4 | with_reducible exact s.at5 | with_reducible exact s.at6 | with_reducible exact s.at7) (fun h s => ?_); refine Sep.pickc (by first | with_reducible exact s | with_reducible exact s.at1 | with_reducible exact s.at2 | with_reducible exact s.at3 | with_reducible exact s.at4 | with_reducible exact s.at5 | with_reducible exact s.at6 | with_reducible exact s.at7) (fun h s => ?_); refine Sep.pickc (by first | with_reducible exact s | with_reducible exact s.at1 | with_reducible exact s.at2 | with_reducible exact s.at3 | with_reducible exact s.at4 | with_reducible exact s.at5 | with_reducible exact s.at6 | with_reducible exact s.at7) (fun h s => ?_); refine Sep.pickc (by first | with_reducible exact s | with_reducible exact s.at1 | with_reducible exact s.at2 | with_reducible exact s.at3 | with_reducible exact s.at4 | with_reducible exact s.at5 | with_reducible exact s.at6 | with_reducible exact s.at7) (fun h s => ?_); refine Sep.pickc (by first | with_reducible exact s | with_reducible exact s.at1 | with_reducible exact s.at2 | with_reducible exact s.at3 | with_reducible exact s.at4 | with_reducible exact s.at5 | with_reducible exact s.at6 | with_reducible exact s.at7) (fun h s => ?_); trivial))
          clear H2
          replace hS : (fun w' : World => w'.cell? ⟨b, 0, none⟩ = some (.slice Aj N cj)) wy := by exact H1.out.at6.cellOf 0 rfl
          refine hK.out _ _ (Or.inr hS) ?_
          clear hK K
          try simp only [Act.put, List.setIfInBounds_toArray, List.set_cons_zero, List.set_cons_succ]
          refine Left.run (i := 6) rfl (by kernel_rfl) (fun K hK => ?_)
          have H0 := Lib.hid H1.out
          have f0 := H0.out.frozenOf 0
          have f1 := H0.out.frozenOf 1
          have d0 := H0.out.cellOf 0 rfl
          have d1 := H0.out.cellOf 1 rfl
          go_simp
          have H2 := Lib.hid ((H0.out.setCell (i := 0) (.slice AT nT cT)).setCell (i := 1) (.slice AC nC cC))
          clear H0 H1 f0 f1 d0 d1 hS
          generalize World.setCell _ _ _ = wy at H2 ⊢
          simp only [List.setIfInBounds_toArray, List.set_cons_zero, List.set_cons_succ] at H2
          have H1 : Hid (Hs W wy [Blk p (.cells #[.slice AT nT cT, .slice AC nC cC] 30), Blk q (.cells #[.slice none 0 0, .slice none 0 0] 30), Ls ETask 42 (.slice AT nT cT) T, Ls EChn 40 (.slice AC nC cC) Cs, Ls ETask 42 (.slice BT nT dT) T, Ls EChn 40 (.slice BC nC dC) Cs, Blk b (.cells #[.slice Aj N cj] 24), Old W]) := Lib.hid ((by refine Hs.conseq (H2.out) fun h s => ?_; refine Sep.pickc (by first | with_reducible exact s | with_reducible exact s.at1 | with_reducible exact s.at2 | with_reducible exact s.at3 | with_reducible exact s.at4 | with_reducible exact s.at5 | with_reducible exact s.at6 | with_reducible exact s.at7) (fun h s => ?_); refine Sep.pickc (by first | with_reducible exact s | with_reducible exact s.at1 | with_reducible exact s.at2 | with_reducible exact s.at3 | with_reducible exact s.at4 | with_reducible exact s.at5 | with_reducible exact s.at6 | with_reducible exact s.at7) (fun h s => ?_); refine Sep.pickc (by first | with_reducible exact s | with_reducible exact s.at1 | with_reducible exact s.at2 | with_reducible exact s.at3 | with_reducible exact s.at4 | with_reducible exact s.at5 | with_reducible exact s.at6 | with_reducible exact s.at7) (fun h s => ?_); refine Sep.pickc (by first | with_reducible exact s | with_reducible exact s.at1 | with_reducible exact s.at2 | with_reducible exact s.at3 | with_reducible exact s.at4 | with_reducible exact s.at5 | with_reducible exact s.at6 | with_reducible exact s.at7) (fun h s => ?_); refine Sep.pickc (by first | with_reducible exact s | with_reducible exact s.at1 | with_reducible exact s.at2 | with_reducible exact s.at3 | with_reducible exact s.at4 | with_reducible exact s.at5 | with_reducible exact s.at6 | with_reducible exact s.at7) (fun h s => ?_); refine Sep.pickc (by first | with_reducible exact s | with_reducible exact s.at1 | with_reducible exact s.at2 | with_reducible exact s.at3 | with_reducible exact s.at4 | with_reducible exact s.at5 | with_reducible exact s.at6 | with_reducible exact s.at7) (fun h s => ?_); refine Sep.pickc (by first | with_reducible exact s | with_reducible exact s.at1 | with_reducible exact s.at2 | with_reducible exact s.at3 | with_reducible exact s.at4 | with_reducible exact s.at5 | with_reducible exact s.at6 | with_reducible exact s.at7) (fun h s => ?_); refine Sep.pickc (by first | with_reducible exact s | with_reducible exact s.at1 | with_reducible exact s.at2 | with_reducible exact s.at3 | with_reducible exact s.at4 | with_reducible exact s.at5 | with_reducible exact s.at6 | with_reducible exact s.at7) (fun h s => ?_); trivial))
          clear H2
          replace hS : (fun w' : World => w'.cell? ⟨b, 0, none⟩ = some (.slice Aj N cj)) wy := by exact H1.out.at6.cellOf 0 rfl
          refine hK.out _ _ (Or.inr hS) ?_
          clear hK K
          try simp only [Act.put, List.setIfInBounds_toArray, List.set_cons_zero, List.set_cons_succ]
          refine Left.run (i := 7) rfl (by kernel_rfl) (fun K hK => ?_)
          have H0 := Lib.hid H1.out.at1
          have f0 := H0.out.frozenOf 0
          have f1 := H0.out.frozenOf 1
          have d0 := H0.out.cellOf 0 rfl
          have d1 := H0.out.cellOf 1 rfl
          go_simp
          have H2 := Lib.hid ((H0.out.setCell (i := 0) (.slice BT nT dT)).setCell (i := 1) (.slice BC nC dC))
          clear H0 H1 f0 f1 d0 d1
          generalize World.setCell _ _ _ = wy at H2 ⊢
          simp only [List.setIfInBounds_toArray, List.set_cons_zero, List.set_cons_succ] at H2
          have H1 : Hid (Hs W wy [Blk p (.cells #[.slice AT nT cT, .slice AC nC cC] 30), Blk q (.cells #[.slice BT nT dT, .slice BC nC dC] 30), Ls ETask 42 (.slice AT nT cT) T, Ls EChn 40 (.slice AC nC cC) Cs, Ls ETask 42 (.slice BT nT dT) T, Ls EChn 40 (.slice BC nC dC) Cs, Blk b (.cells #[.slice Aj N cj] 24), Old W]) := Lib.hid ((by refine Hs.conseq (H2.out) fun h s => ?_; refine Sep.pickc (by first | with_reducible exact s | with_reducible exact s.at1 | with_reducible exact s.at2 | with_reducible exact s.at3 | with_reducible exact s.at4 | with_reducible exact s.at5 | with_reducible exact s.at6 | with_reducible exact s.at7) (fun h s => ?_); refine Sep.pickc (by first | with_reducible exact s | with_reducible exact s.at1 | with_reducible exact s.at2 | with_reducible exact s.at3 | with_reducible exact s.at4 | with_reducible exact s.at5 | with_reducible exact s.at6 | with_reducible exact s.at7) (fun h s => ?_); refine Sep.pickc (by first | with_reducible exact s | with_reducible exact s.at1 | with_reducible exact s.at2 | with_reducible exact s.at3 | with_reducible exact s.at4 | with_reducible exact s.at5 | with_reducible exact s.at6 | with_reducible exact s.at7) (fun h s => ?_); refine Sep.pickc (by first | with_reducible exact s | with_reducible exact s.at1 | with_reducible exact s.at2 | with_reducible exact s.at3 | with_reducible exact s.at4 | with_reducible exact s.at5 | with_reducible exact s.at6 | with_reducible exact s.at7) (fun h s => ?_); refine Sep.pickc (by first | with_reducible exact s | with_reducible exact s.at1 | with_reducible exact s.at2 | with_reducible exact s.at3 | with_reducible exact s.at4 | with_reducible exact s.at5 | with_reducible exact s.at6 | with_reducible exact s.at7) (fun h s => ?_); refine Sep.pickc (by first | with_reducible exact s | with_reducible exact s.at1 | with_reducible exact s.at2 | with_reducible exact s.at3 | with_reducible exact s.at4 | with_reducible exact s.at5 | with_reducible exact s.at6 | with_reducible exact s.at7) (fun h s => ?_); refine Sep.pickc (by first | with_reducible exact s | with_reducible exact s.at1 | with_reducible exact s.at2 | with_reducible exact s.at3 | with_reducible exact s.at4 | with_reducible exact s.at5 | with_reducible exact s.at6 | with_reducible exact s.at7) (fun h s => ?_); refine Sep.pickc (by first | with_reducible exact s | with_reducible exact s.at1 | with_reducible exact s.at2 | with_reducible exact s.at3 | with_reducible exact s.at4 | with_reducible exact s.at5 | with_reducible exact s.at6 | with_reducible exact s.at7) (fun h s => ?_); trivial))
          clear H2
          refine hK.out _ _ (Or.inl (by kernel_rfl)) ?_
          clear hK K
          try simp only [Act.put, List.setIfInBounds_toArray, List.set_cons_zero, List.set_cons_succ]
          refine Left.done (by kernel_rfl) ?_ _
          go_wp2_with fail
          go_meet
          case rel => exact ⟨p, q, AT, cT, AC, cC, BT, dT, BC, dC, rfl, rfl, H1⟩
        · skip
          have H2 := Lib.hid (H1.out.alloc (.cells #[.slice none 0 0, .slice none 0 0] 30))
          go_simp
          generalize wy.heap.size = q at H2 ⊢
          generalize World.alloc wy _ = wy at H2 ⊢
          clear H1 hS
          have H1 : Hid (Hs W wy [Blk q (.cells #[.slice none 0 0, .slice none 0 0] 30), Ls ETask 42 (.slice AT nT cT) T, Ls EChn 40 (.slice AC nC cC) Cs, Ls ETask 42 (.slice BT nT dT) T, Ls EChn 40 (.slice BC nC dC) Cs, Blk b (.cells #[.slice Aj N cj] 24), Old W]) := Lib.hid ((by refine Hs.conseq (H2.out) fun h s => ?_; refine Sep.pickc (by first | with_reducible exact s | with_reducible exact s.at1 | with_reducible exact s.at2 | with_reducible exact s.at3 | with_reducible exact s.at4 | with_reducible exact s.at5 | with_reducible exact s.at6 | with_reducible exact s.at7) (fun h s => ?_); refine Sep.pickc (by first | with_reducible exact s | with_reducible exact s.at1 | with_reducible exact s.at2 | with_reducible exact s.at3 | with_reducible exact s.at4 | with_reducible exact s.at5 | with_reducible exact s.at6 | with_reducible exact s.at7) (fun h s => ?_); refine Sep.pickc (by first | with_reducible exact s | with_reducible exact s.at1 | with_reducible exact s.at2 | with_reducible exact s.at3 | with_reducible exact s.at4 | with_reducible exact s.at5 | with_reducible exact s.at6 | with_reducible exact s.at7) (fun h s => ?_); refine Sep.pickc (by first | with_reducible exact s | with_reducible exact s.at1 | with_reducible exact s.at2 | with_reducible exact s.at3 | with_reducible exact s.at4 | with_reducible exact s.at5 | with_reducible exact s.at6 | with_reducible exact s.at7) (fun h s => ?_); refine Sep.pickc (by first | with_reducible exact s | with_reducible exact s.at1 | with_reducible exact s.at2 | with_reducible exact s.at3 | with_reducible exact s.at4 | with_reducible exact s.at5 | with_reducible exact s.at6 | with_reducible exact s.at7) (fun h s => ?_); refine Sep.pickc (by first | with_reducible exact s | with_reducible exact s.at1 | with_reducible exact s.at2 | with_reducible exact s.at3 | with_reducible exact s.at4 | with_reducible exact s.at5 | with_reducible exact s.at6 | with_reducible exact s.at7) (fun h s => ?_); refine Sep.pickc (by first | with_reducible exact s | with_reducible exact s.at1 | with_reducible exact s.at2 | with_reducible exact s.at3 | with_reducible exact s.at4 | with_reducible exact s.at5 | with_reducible exact s.at6 | with_reducible exact s.at7) (fun h s => ?_); trivial))
          clear H2
          replace hS : (fun w' : World => w'.cell? ⟨b, 0, none⟩ = some (.slice Aj N cj)) wy := by exact H1.out.at5.cellOf 0 rfl
          refine hK.out _ _ (Or.inr hS) ?_
          clear hK K
          try simp only [Act.put, List.setIfInBounds_toArray, List.set_cons_zero, List.set_cons_succ]
          refine Left.run (i := 4) rfl (by kernel_rfl) (fun K hK => ?_)
          have H2 := Lib.hid (H1.out.alloc (.cells #[.slice none 0 0, .slice none 0 0] 30))
          go_simp
          generalize wy.heap.size = p at H2 ⊢
          generalize World.alloc wy _ = wy at H2 ⊢
          clear H1 hS
          have H1 : Hid (Hs W wy [Blk p (.cells #[.slice none 0 0, .slice none 0 0] 30), Blk q (.cells #[.slice none 0 0, .slice none 0 0] 30), Ls ETask 42 (.slice AT nT cT) T, Ls EChn 40 (.slice AC nC cC) Cs, Ls ETask 42 (.slice BT nT dT) T, Ls EChn 40 (.slice BC nC dC) Cs, Blk b (.cells #[.slice Aj N cj] 24), Old W]) := Lib.hid ((by refine Hs.conseq (H2.out) fun h s => ?_; refine Sep.pickc (by first | with_reducible exact s | with_reducible exact s.at1 | with_reducible exact s.at2 | with_reducible exact s.at3 | with_reducible exact s.at4 | with_reducible exact s.at5 | with_reducible exact s.at6 | with_reducible exact s.at7) (fun h s => ?_); refine Sep.pickc (by first | with_reducible exact s | with_reducible exact s.at1 | with_reducible exact s.at2 | with_reducible exact s.at3 | with_reducible exact s.at4 | with_reducible exact s.at5 | with_reducible exact s.at6 | with_reducible exact s.at7) (fun h s => ?_); refine Sep.pickc (by first | with_reducible exact s | with_reducible exact s.at1 | with_reducible exact s.at2 | with_reducible exact s.at3 | with_reducible exact s.at4 | with_reducible exact s.at5 | with_reducible exact s.at6 | with_reducible exact s.at7) (fun h s => ?_); refine Sep.pickc (by first | with_reducible exact s | with_reducible exact s.at1 | with_reducible exact s.at2 | with_reducible exact s.at3 | with_reducible exact s.at4 | with_reducible exact s.at5 | with_reducible exact s.at6 | with_reducible exact s.at7) (fun h s => ?_); refine Sep.pickc (by first | with_reducible exact s | with_reducible exact s.at1 | with_reducible exact s.at2 | with_reducible exact s.at3 | with_reducible exact s.at4 | with_reducible exact s.at5 | with_reducible exact s.at6 | with_reducible exact s.at7) (fun h s => ?_); refine Sep.pickc (by first | with_reducible exact s | with_reducible exact s.at1 | with_reducible exact s.at2 | with_reducible exact s.at3 | with_reducible exact s.at4 | with_reducible exact s.at5 | with_reducible exact s.at6 | with_reducible exact s.at7) (fun h s => ?_); refine Sep.pickc (by first | with_reducible exact s | with_reducible exact s.at1 | with_reducible exact s.at2 | with_reducible exact s.at3 | with_reducible exact s.at4 | with_reducible exact s.at5 | with_reducible exact s.at6 | with_reducible exact s.at7) (fun h s => ?_); refine Sep.pickc (by first | with_reducible exact s | with_reducible exact s.at1 | with_reducible exact s.at2 | with_reducible exact s.at3 | with_reducible exact s.at4 | with_reducible exact s.at5 | with_reducible exact s.at6 | with_reducible exact s.at7) (fun h s => ?_); trivial))
          clear H2
          replace hS : (fun w' : World => w'.cell? ⟨b, 0, none⟩ = some (.slice Aj N cj)) wy := by exact H1.out.at6.cellOf 0 rfl
          refine hK.out _ _ (Or.inr hS) ?_
          clear hK K
          try simp only [Act.put, List.setIfInBounds_toArray, List.set_cons_zero, List.set_cons_succ]
          refine Left.run (i := 6) rfl (by kernel_rfl) (fun K hK => ?_)
          have H0 := Lib.hid H1.out
          have f0 := H0.out.frozenOf 0
          have f1 := H0.out.frozenOf 1
          have d0 := H0.out.cellOf 0 rfl
          have d1 := H0.out.cellOf 1 rfl
          go_simp
          have H2 := Lib.hid ((H0.out.setCell (i := 0) (.slice AT nT cT)).setCell (i := 1) (.slice AC nC cC))
          clear H0 H1 f0 f1 d0 d1 hS
          generalize World.setCell _ _ _ = wy at H2 ⊢
          simp only [List.setIfInBounds_toArray, List.set_cons_zero, List.set_cons_succ] at H2
          have H1 : Hid (Hs W wy [Blk p (.cells #[.slice AT nT cT, .slice AC nC cC] 30), Blk q (.cells #[.slice none 0 0, .slice none 0 0] 30), Ls ETask 42 (.slice AT nT cT) T, Ls EChn 40 (.slice AC nC cC) Cs, Ls ETask 42 (.slice BT nT dT) T, Ls EChn 40 (.slice BC nC dC) Cs, Blk b (.cells #[.slice Aj N cj] 24), Old W]) := Lib.hid ((by refine Hs.conseq (H2.out) fun h s => ?_; refine Sep.pickc (by first | with_reducible exact s | with_reducible exact s.at1 | with_reducible exact s.at2 | with_reducible exact s.at3 | with_reducible exact s.at4 | with_reducible exact s.at5 | with_reducible exact s.at6 | with_reducible exact s.at7) (fun h s => ?_); refine Sep.pickc (by first | with_reducible exact s | with_reducible exact s.at1 | with_reducible exact s.at2 | with_reducible exact s.at3 | with_reducible exact s.at4 | with_reducible exact s.at5 | with_reducible exact s.at6 | with_reducible exact s.at7) (fun h s => ?_); refine Sep.pickc (by first | with_reducible exact s | with_reducible exact s.at1 | with_reducible exact s.at2 | with_reducible exact s.at3 | with_reducible exact s.at4 | with_reducible exact s.at5 | with_reducible exact s.at6 | with_reducible exact s.at7) (fun h s => ?_); refine Sep.pickc (by first | with_reducible exact s | with_reducible exact s.at1 | with_reducible exact s.at2 | with_reducible exact s.at3 | with_reducible exact s.at4 | with_reducible exact s.at5 | with_reducible exact s.at6 | with_reducible exact s.at7) (fun h s => ?_); refine Sep.pickc (by first | with_reducible exact s | with_reducible exact s.at1 | with_reducible exact s.at2 | with_reducible exact s.at3 | with_reducible exact s.at4 | with_reducible exact s.at5 | with_reducible exact s.at6 | with_reducible exact s.at7) (fun h s => ?_); refine Sep.pickc (by first | with_reducible exact s | with_reducible exact s.at1 | with_reducible exact s.at2 | with_reducible exact s.at3 | with_reducible exact s.at4 | with_reducible exact s.at5 | with_reducible exact s.at6 | with_reducible exact s.at7) (fun h s => ?_); refine Sep.pickc (by first | with_reducible exact s | with_reducible exact s.at1 | with_reducible exact s.at2 | with_reducible exact s.at3 | with_reducible exact s.at4 | with_reducible exact s.at5 | with_reducible exact s.at6 | with_reducible exact s.at7) (fun h s => ?_); refine Sep.pickc (by first | with_reducible exact s | with_reducible exact s.at1 | with_reducible exact s.at2 | with_reducible exact s.at3 | with_reducible exact s.at4 | with_reducible exact s.at5 | with_reducible exact s.at6 | with_reducible exact s.at7) (fun h s => ?_); trivial))
          clear H2
          replace hS : (fun w' : World => w'.cell? ⟨b, 0, none⟩ = some (.slice Aj N cj)) wy := by exact H1.out.at6.cellOf 0 rfl
          refine hK.out _ _ (Or.inr hS) ?_
          clear hK K
          try simp only [Act.put, List.setIfInBounds_toArray, List.set_cons_zero, List.set_cons_succ]
          refine Left.run (i := 7) rfl (by kernel_rfl) (fun K hK => ?_)
          have H0 := Lib.hid H1.out.at1
          have f0 := H0.out.frozenOf 0
          have f1 := H0.out.frozenOf 1
          have d0 := H0.out.cellOf 0 rfl
          have d1 := H0.out.cellOf 1 rfl
          go_simp
          have H2 := Lib.hid ((H0.out.setCell (i := 0) (.slice BT nT dT)).setCell (i := 1) (.slice BC nC dC))
          clear H0 H1 f0 f1 d0 d1
          generalize World.setCell _ _ _ = wy at H2 ⊢
          simp only [List.setIfInBounds_toArray, List.set_cons_zero, List.set_cons_succ] at H2
          have H1 : Hid (Hs W wy [Blk p (.cells #[.slice AT nT cT, .slice AC nC cC] 30), Blk q (.cells #[.slice BT nT dT, .slice BC nC dC] 30), Ls ETask 42 (.slice AT nT cT) T, Ls EChn 40 (.slice AC nC cC) Cs, Ls ETask 42 (.slice BT nT dT) T, Ls EChn 40 (.slice BC nC dC) Cs, Blk b (.cells #[.slice Aj N cj] 24), Old W]) := Lib.hid ((by refine Hs.conseq (H2.out) fun h s => ?_; refine Sep.pickc (by first | with_reducible exact s | with_reducible exact s.at1 | with_reducible exact s.at2 | with_reducible exact s.at3 | with_reducible exact s.at4 | with_reducible exact s.at5 | with_reducible exact s.at6 | with_reducible exact s.at7) (fun h s => ?_); refine Sep.pickc (by first | with_reducible exact s | with_reducible exact s.at1 | with_reducible exact s.at2 | with_reducible exact s.at3 | with_reducible exact s.at4 | with_reducible exact s.at5 | with_reducible exact s.at6 | with_reducible exact s.at7) (fun h s => ?_); refine Sep.pickc (by first | with_reducible exact s | with_reducible exact s.at1 | with_reducible exact s.at2 | with_reducible exact s.at3 | with_reducible exact s.at4 | with_reducible exact s.at5 | with_reducible exact s.at6 | with_reducible exact s.at7) (fun h s => ?_); refine Sep.pickc (by first | with_reducible exact s | with_reducible exact s.at1 | with_reducible exact s.at2 | with_reducible exact s.at3 | with_reducible exact s.at4 | with_reducible exact s.at5 | with_reducible exact s.at6 | with_reducible exact s.at7) (fun h s => ?_); refine Sep.pickc (by first | with_reducible exact s | with_reducible exact s.at1 | with_reducible exact s.at2 | with_reducible exact s.at3 | with_reducible exact s.at4 | with_reducible exact s.at5 | with_reducible exact s.at6 | with_reducible exact s.at7) (fun h s => ?_); refine Sep.pickc (by first | with_reducible exact s | with_reducible exact s.at1 | with_reducible exact s.at2 | with_reducible exact s.at3 | with_reducible exact s.at4 | with_reducible exact s.at5 | with_reducible exact s.at6 | with_reducible exact s.at7) (fun h s => ?_); refine Sep.pickc (by first | with_reducible exact s | with_reducible exact s.at1 | with_reducible exact s.at2 | with_reducible exact s.at3 | with_reducible exact s.at4 | with_reducible exact s.at5 | with_reducible exact s.at6 | with_reducible exact s.at7) (fun h s => ?_); refine Sep.pickc (by first | with_reducible exact s | with_reducible exact s.at1 | with_reducible exact s.at2 | with_reducible exact s.at3 | with_reducible exact s.at4 | with_reducible exact s.at5 | with_reducible exact s.at6 | with_reducible exact s.at7) (fun h s => ?_); trivial))
          clear H2
          refine hK.out _ _ (Or.inl (by kernel_rfl)) ?_
          clear hK K
          try simp only [Act.put, List.setIfInBounds_toArray, List.set_cons_zero, List.set_cons_succ]
          refine Left.done (by kernel_rfl) ?_ _
          go_wp2_with fail
          go_meet
          case rel => exact ⟨p, q, AT, cT, AC, cC, BT, dT, BC, dC, rfl, rfl, H1⟩
      · skip
        have H2 := Lib.hid (H1.out.alloc (.cells #[.slice none 0 0, .slice none 0 0] 30))
        go_simp
        generalize wy.heap.size = p at H2 ⊢
        generalize World.alloc wy _ = wy at H2 ⊢
        clear H1 hS
        have H1 : Hid (Hs W wy [Blk p (.cells #[.slice none 0 0, .slice none 0 0] 30), Ls ETask 42 (.slice AT nT cT) T, Ls EChn 40 (.slice AC nC cC) Cs, Blk b (.cells #[.slice Aj N cj] 24), Old W]) := Lib.hid ((by refine Hs.conseq (H2.out) fun h s => ?_; refine Sep.pickc (by first | with_reducible exact s | with_reducible exact s.at1 | with_reducible exact s.at2 | with_reducible exact s.at3 | with_reducible exact s.at4 | with_reducible exact s.at5 | with_reducible exact s.at6 | with_reducible exact s.at7) (fun h s => ?_); refine Sep.pickc (by first | with_reducible exact s | with_reducible exact s.at1 | with_reducible exact s.at2 | with_reducible exact s.at3 | with_reducible exact s.at4 | with_reducible exact s.at5 | with_reducible exact s.at6 | with_reducible exact s.at7) (fun h s => ?_); refine Sep.pickc (by first | with_reducible exact s | with_reducible exact s.at1 | with_reducible exact s.at2 | with_reducible exact s.at3 | with_reducible exact s.at4 | with_reducible exact s.at5 | with_reducible exact s.at6 | with_reducible exact s.at7) (fun h s => ?_); refine Sep.pickc (by first | with_reducible exact s | with_reducible exact s.at1 | with_reducible exact s.at2 | with_reducible exact s.at3 | with_reducible exact s.at4 | with_reducible exact s.at5 | with_reducible exact s.at6 | with_reducible exact s.at7) (fun h s => ?_); refine Sep.pickc (by first | with_reducible exact s | with_reducible exact s.at1 | with_reducible exact s.at2 | with_reducible exact s.at3 | with_reducible exact s.at4 | with_reducible exact s.at5 | with_reducible exact s.at6 | with_reducible exact s.at7) (fun h s => ?_); trivial))
        clear H2
        replace hS : (fun w' : World => w'.cell? ⟨b, 0, none⟩ = some (.slice Aj N cj)) wy := by exact H1.out.at3.cellOf 0 rfl
        refine hK.out _ _ (Or.inr hS) ?_
        clear hK K
        try simp only [Act.put, List.setIfInBounds_toArray, List.set_cons_zero, List.set_cons_succ]
        refine Left.two (i := 3) (j := 5) rfl rfl (by kernel_rfl) (fun K hK => ?_) (fun K hK => ?_)
        · skip
          go_simp
          go_at_call 11
          refine (refmake11 (.slice Aj N cj) zs wy W _ H1.out (fun w' h => JJ.out w' h.tail.tail.tail.tail) hok.out).mono ?_
          rintro e wy ⟨BT, dT, BC, dC, rfl, H2⟩
          rw [hT.out, hC.out, hnT.out, hnC.out] at H2 ⊢
          clear H1 hS
          have H1 : Hid (Hs W wy [Blk p (.cells #[.slice none 0 0, .slice none 0 0] 30), Ls ETask 42 (.slice AT nT cT) T, Ls EChn 40 (.slice AC nC cC) Cs, Ls ETask 42 (.slice BT nT dT) T, Ls EChn 40 (.slice BC nC dC) Cs, Blk b (.cells #[.slice Aj N cj] 24), Old W]) := Lib.hid ((by refine Hs.conseq (H2) fun h s => ?_; refine Sep.pickc (by first | with_reducible exact s | with_reducible exact s.at1 | with_reducible exact s.at2 | with_reducible exact s.at3 | with_reducible exact s.at4 | with_reducible exact s.at5 | with_reducible exact s.at6 | with_reducible exact s.at7) (fun h s => ?_); refine Sep.pickc (by first | with_reducible exact s | with_reducible exact s.at1 | with_reducible exact s.at2 | with_reducible exact s.at3 | with_reducible exact s.at4 | with_reducible exact s.at5 | with_reducible exact s.at6 | with_reducible exact s.at7) (fun h s => ?_); refine Sep.pickc (by first | with_reducible exact s | with_reducible exact s.at1 | with_reducible exact s.at2 | with_reducible exact s.at3 | with_reducible exact s.at4 | with_reducible exact s.at5 | with_reducible exact s.at6 | with_reducible exact s.at7) (fun h s => ?_); refine Sep.pickc (by first | with_reducible exact s | with_reducible exact s.at1 | with_reducible exact s.at2 | with_reducible exact s.at3 | with_reducible exact s.at4 | with_reducible exact s.at5 | with_reducible exact s.at6 | with_reducible exact s.at7) (fun h s => ?_); refine Sep.pickc (by first | with_reducible exact s | with_reducible exact s.at1 | with_reducible exact s.at2 | with_reducible exact s.at3 | with_reducible exact s.at4 | with_reducible exact s.at5 | with_reducible exact s.at6 | with_reducible exact s.at7) (fun h s => ?_); refine Sep.pickc (by first | with_reducible exact s | with_reducible exact s.at1 | with_reducible exact s.at2 | with_reducible exact s.at3 | with_reducible exact s.at4 | with_reducible exact s.at5 | with_reducible exact s.at6 | with_reducible exact s.at7) (fun h s => ?_); refine Sep.pickc (by first | with_reducible exact s | with_reducible exact s.at1 | with_reducible exact s.at2 | with_reducible exact s.at3 | with_reducible exact s.at4 | with_reducible exact s.at5 | with_reducible exact s.at6 | with_reducible exact s.at7) (fun h s => ?_); trivial))
          clear H2
          go_simp
          replace hS : (fun w' : World => w'.cell? ⟨b, 0, none⟩ = some (.slice Aj N cj)) wy := by exact H1.out.at5.cellOf 0 rfl
          refine hK.out _ _ (Or.inr hS) ?_
          clear hK K
          try simp only [Act.put, List.setIfInBounds_toArray, List.set_cons_zero, List.set_cons_succ]
          refine Left.run (i := 5) rfl (by kernel_rfl) (fun K hK => ?_)
          have H2 := Lib.hid (H1.out.alloc (.cells #[.slice none 0 0, .slice none 0 0] 30))
          go_simp
          generalize wy.heap.size = q at H2 ⊢
          generalize World.alloc wy _ = wy at H2 ⊢
          clear H1 hS
          have H1 : Hid (Hs W wy [Blk p (.cells #[.slice none 0 0, .slice none 0 0] 30), Blk q (.cells #[.slice none 0 0, .slice none 0 0] 30), Ls ETask 42 (.slice AT nT cT) T, Ls EChn 40 (.slice AC nC cC) Cs, Ls ETask 42 (.slice BT nT dT) T, Ls EChn 40 (.slice BC nC dC) Cs, Blk b (.cells #[.slice Aj N cj] 24), Old W]) := Lib.hid ((by refine Hs.conseq (H2.out) fun h s => ?_; refine Sep.pickc (by first | with_reducible exact s | with_reducible exact s.at1 | with_reducible exact s.at2 | with_reducible exact s.at3 | with_reducible exact s.at4 | with_reducible exact s.at5 | with_reducible exact s.at6 | with_reducible exact s.at7) (fun h s => ?_); refine Sep.pickc (by first | with_reducible exact s | with_reducible exact s.at1 | with_reducible exact s.at2 | with_reducible exact s.at3 | with_reducible exact s.at4 | with_reducible exact s.at5 | with_reducible exact s.at6 | with_reducible exact s.at7) (fun h s => ?_); refine Sep.pickc (by first | with_reducible exact s | with_reducible exact s.at1 | with_reducible exact s.at2 | with_reducible exact s.at3 | with_reducible exact s.at4 | with_reducible exact s.at5 | with_reducible exact s.at6 | with_reducible exact s.at7) (fun h s => ?_); refine Sep.pickc (by first | with_reducible exact s | with_reducible exact s.at1 | with_reducible exact s.at2 | with_reducible exact s.at3 | with_reducible exact s.at4 | with_reducible exact s.at5 | with_reducible exact s.at6 | with_reducible exact s.at7) (fun h s => ?_); refine Sep.pickc (by first | with_reducible exact s | with_reducible exact s.at1 | with_reducible exact s.at2 | with_reducible exact s.at3 | with_reducible exact s.at4 | with_reducible exact s.at5 | with_reducible exact s.at6 | with_reducible exact s.at7) (fun h s => ?_); refine Sep.pickc (by first | with_reducible exact s | with_reducible exact s.at1 | with_reducible exact s.at2 | with_reducible exact s.at3 | with_reducible exact s.at4 | with_reducible exact s.at5 | with_reducible exact s.at6 | with_reducible exact s.at7) (fun h s => ?_); refine Sep.pickc (by first | with_reducible exact s | with_reducible exact s.at1 | with_reducible exact s.at2 | with_reducible exact s.at3 | with_reducible exact s.at4 | with_reducible exact s.at5 | with_reducible exact s.at6 | with_reducible exact s.at7) (fun h s => ?_); refine Sep.pickc (by first | with_reducible exact s | with_reducible exact s.at1 | with_reducible exact s.at2 | with_reducible exact s.at3 | with_reducible exact s.at4 | with_reducible exact s.at5 | with_reducible exact s.at6 | with_reducible exact s.at7) (fun h s => ?_); trivial))
          clear H2
          replace hS : (fun w' : World => w'.cell? ⟨b, 0, none⟩ = some (.slice Aj N cj)) wy := by exact H1.out.at6.cellOf 0 rfl
          refine hK.out _ _ (Or.inr hS) ?_
          clear hK K
          try simp only [Act.put, List.setIfInBounds_toArray, List.set_cons_zero, List.set_cons_succ]
          refine Left.run (i := 6) rfl (by kernel_rfl) (fun K hK => ?_)
          have H0 := Lib.hid H1.out
          have f0 := H0.out.frozenOf 0
          have f1 := H0.out.frozenOf 1
          have d0 := H0.out.cellOf 0 rfl
          have d1 := H0.out.cellOf 1 rfl
          go_simp
          have H2 := Lib.hid ((H0.out.setCell (i := 0) (.slice AT nT cT)).setCell (i := 1) (.slice AC nC cC))
          clear H0 H1 f0 f1 d0 d1 hS
          generalize World.setCell _ _ _ = wy at H2 ⊢
          simp only [List.setIfInBounds_toArray, List.set_cons_zero, List.set_cons_succ] at H2
          have H1 : Hid (Hs W wy [Blk p (.cells #[.slice AT nT cT, .slice AC nC cC] 30), Blk q (.cells #[.slice none 0 0, .slice none 0 0] 30), Ls ETask 42 (.slice AT nT cT) T, Ls EChn 40 (.slice AC nC cC) Cs, Ls ETask 42 (.slice BT nT dT) T, Ls EChn 40 (.slice BC nC dC) Cs, Blk b (.cells #[.slice Aj N cj] 24), Old W]) := Lib.hid ((by refine Hs.conseq (H2.out) fun h s => ?_; refine Sep.pickc (by first | with_reducible exact s | with_reducible exact s.at1 | with_reducible exact s.at2 | with_reducible exact s.at3 | with_reducible exact s.at4 | with_reducible exact s.at5 | with_reducible exact s.at6 | with_reducible exact s.at7) (fun h s => ?_); refine Sep.pickc (by first | with_reducible exact s | with_reducible exact s.at1 | with_reducible exact s.at2 | with_reducible exact s.at3 | with_reducible exact s.at4 | with_reducible exact s.at5 | with_reducible exact s.at6 | with_reducible exact s.at7) (fun h s => ?_); refine Sep.pickc (by first | with_reducible exact s | with_reducible exact s.at1 | with_reducible exact s.at2 | with_reducible exact s.at3 | with_reducible exact s.at4 | with_reducible exact s.at5 | with_reducible exact s.at6 | with_reducible exact s.at7) (fun h s => ?_); refine Sep.pickc (by first | with_reducible exact s | with_reducible exact s.at1 | with_reducible exact s.at2 | with_reducible exact s.at3 | with_reducible exact s.at4 | with_reducible exact s.at5 | with_reducible exact s.at6 | with_reducible exact s.at7) (fun h s => ?_); refine Sep.pickc (by first | with_reducible exact s | with_reducible exact s.at1 | with_reducible exact s.at2 | with_reducible exact s.at3 | with_reducible exact s.at4 | with_reducible exact s.at5 | with_reducible exact s.at6 | with_reducible exact s.at7) (fun h s => ?_); refine Sep.pickc (by first | with_reducible exact s | with_reducible exact s.at1 | with_reducible exact s.at2 | with_reducible exact s.at3 | with_reducible exact s.at4 | with_reducible exact s.at5 | with_reducible exact s.at6 | with_reducible exact s.at7) (fun h s => ?_); refine Sep.pickc (by first | with_reducible exact s | with_reducible exact s.at1 | with_reducible exact s.at2 | with_reducible exact s.at3 | with_reducible exact s.at4 | with_reducible exact s.at5 | with_reducible exact s.at6 | with_reducible exact s.at7) (fun h s => ?_); refine Sep.pickc (by first | with_reducible exact s | with_reducible exact s.at1 | with_reducible exact s.at2 | with_reducible exact s.at3 | with_reducible exact s.at4 | with_reducible exact s.at5 | with_reducible exact s.at6 | with_reducible exact s.at7) (fun h s => ?_); trivial))
          clear H2
          replace hS : (fun w' : World => w'.cell? ⟨b, 0, none⟩ = some (.slice Aj N cj)) wy := by exact H1.out.at6.cellOf 0 rfl
          refine hK.out _ _ (Or.inr hS) ?_
          clear hK K
          try simp only [Act.put, List.setIfInBounds_toArray, List.set_cons_zero, List.set_cons_succ]
          refine Left.run (i := 7) rfl (by kernel_rfl) (fun K hK => ?_)
          have H0 := Lib.hid H1.out.at1
          have f0 := H0.out.frozenOf 0
          have f1 := H0.out.frozenOf 1
          have d0 := H0.out.cellOf 0 rfl
          have d1 := H0.out.cellOf 1 rfl
          go_simp
          have H2 := Lib.hid ((H0.out.setCell (i := 0) (.slice BT nT dT)).setCell (i := 1) (.slice BC nC dC))
          clear H0 H1 f0 f1 d0 d1
          generalize World.setCell _ _ _ = wy at H2 ⊢
          simp only [List.setIfInBounds_toArray, List.set_cons_zero, List.set_cons_succ] at H2
          have H1 : Hid (Hs W wy [Blk p (.cells #[.slice AT nT cT, .slice AC nC cC] 30), Blk q (.cells #[.slice BT nT dT, .slice BC nC dC] 30), Ls ETask 42 (.slice AT nT cT) T, Ls EChn 40 (.slice AC nC cC) Cs, Ls ETask 42 (.slice BT nT dT) T, Ls EChn 40 (.slice BC nC dC) Cs, Blk b (.cells #[.slice Aj N cj] 24), Old W]) := Lib.hid ((by refine Hs.conseq (H2.out) fun h s => ?_; refine Sep.pickc (by first | with_reducible exact s | with_reducible exact s.at1 | with_reducible exact s.at2 | with_reducible exact s.at3 | with_reducible exact s.at4 | with_reducible exact s.at5 | with_reducible exact s.at6 | with_reducible exact s.at7) (fun h s => ?_); refine Sep.pickc (by first | with_reducible exact s | with_reducible exact s.at1 | with_reducible exact s.at2 | with_reducible exact s.at3 | with_reducible exact s.at4 | with_reducible exact s.at5 | with_reducible exact s.at6 | with_reducible exact s.at7) (fun h s => ?_); refine Sep.pickc (by first | with_reducible exact s | with_reducible exact s.at1 | with_reducible exact s.at2 | with_reducible exact s.at3 | with_reducible exact s.at4 | with_reducible exact s.at5 | with_reducible exact s.at6 | with_reducible exact s.at7) (fun h s => ?_); refine Sep.pickc (by first | with_reducible exact s | with_reducible exact s.at1 | with_reducible exact s.at2 | with_reducible exact s.at3 | with_reducible exact s.at4 | with_reducible exact s.at5 | with_reducible exact s.at6 | with_reducible exact s.at7) (fun h s => ?_); refine Sep.pickc (by first | with_reducible exact s | with_reducible exact s.at1 | with_reducible exact s.at2 | with_reducible exact s.at3 | with_reducible exact s.at4 | with_reducible exact s.at5 | with_reducible exact s.at6 | with_reducible exact s.at7) (fun h s => ?_); refine Sep.pickc (by first | with_reducible exact s | with_reducible exact s.at1 | with_reducible exact s.at2 | with_reducible exact s.at3 | with_reducible exact s.at4 | with_reducible exact s.at5 | with_reducible exact s.at6 | with_reducible exact s.at7) (fun h s => ?_); refine Sep.pickc (by first | with_reducible exact s | with_reducible exact s.at1 | with_reducible exact s.at2 | with_reducible exact s.at3 | with_reducible exact s.at4 | with_reducible exact s.at5 | with_reducible exact s.at6 | with_reducible exact s.at7) (fun h s => ?_); refine Sep.pickc (by first | with_reducible exact s | with_reducible exact s.at1 | with_reducible exact s.at2 | with_reducible exact s.at3 | with_reducible exact s.at4 | with_reducible exact s.at5 | with_reducible exact s.at6 | with_reducible exact s.at7) (fun h s => ?_); trivial))
          clear H2
          refine hK.out _ _ (Or.inl (by kernel_rfl)) ?_
          clear hK K
          try simp only [Act.put, List.setIfInBounds_toArray, List.set_cons_zero, List.set_cons_succ]
          refine Left.done (by kernel_rfl) ?_ _
          go_wp2_with fail
          go_meet
          case rel => exact ⟨p, q, AT, cT, AC, cC, BT, dT, BC, dC, rfl, rfl, H1⟩
        · skip
          have H2 := Lib.hid (H1.out.alloc (.cells #[.slice none 0 0, .slice none 0 0] 30))
          go_simp
          generalize wy.heap.size = q at H2 ⊢
          generalize World.alloc wy _ = wy at H2 ⊢
          clear H1 hS
          have H1 : Hid (Hs W wy [Blk p (.cells #[.slice none 0 0, .slice none 0 0] 30), Blk q (.cells #[.slice none 0 0, .slice none 0 0] 30), Ls ETask 42 (.slice AT nT cT) T, Ls EChn 40 (.slice AC nC cC) Cs, Blk b (.cells #[.slice Aj N cj] 24), Old W]) := Lib.hid ((by refine Hs.conseq (H2.out) fun h s => ?_; refine Sep.pickc (by first | with_reducible exact s | with_reducible exact s.at1 | with_reducible exact s.at2 | with_reducible exact s.at3 | with_reducible exact s.at4 | with_reducible exact s.at5 | with_reducible exact s.at6 | with_reducible exact s.at7) (fun h s => ?_); refine Sep.pickc (by first | with_reducible exact s | with_reducible exact s.at1 | with_reducible exact s.at2 | with_reducible exact s.at3 | with_reducible exact s.at4 | with_reducible exact s.at5 | with_reducible exact s.at6 | with_reducible exact s.at7) (fun h s => ?_); refine Sep.pickc (by first | with_reducible exact s | with_reducible exact s.at1 | with_reducible exact s.at2 | with_reducible exact s.at3 | with_reducible exact s.at4 | with_reducible exact s.at5 | with_reducible exact s.at6 | with_reducible exact s.at7) (fun h s => ?_); refine Sep.pickc (by first | with_reducible exact s | with_reducible exact s.at1 | with_reducible exact s.at2 | with_reducible exact s.at3 | with_reducible exact s.at4 | with_reducible exact s.at5 | with_reducible exact s.at6 | with_reducible exact s.at7) (fun h s => ?_); refine Sep.pickc (by first | with_reducible exact s | with_reducible exact s.at1 | with_reducible exact s.at2 | with_reducible exact s.at3 | with_reducible exact s.at4 | with_reducible exact s.at5 | with_reducible exact s.at6 | with_reducible exact s.at7) (fun h s => ?_); refine Sep.pickc (by first | with_reducible exact s | with_reducible exact s.at1 | with_reducible exact s.at2 | with_reducible exact s.at3 | with_reducible exact s.at4 | with_reducible exact s.at5 | with_reducible exact s.at6 | with_reducible exact s.at7) (fun h s => ?_); trivial))
          clear H2
          replace hS : (fun w' : World => w'.cell? ⟨b, 0, none⟩ = some (.slice Aj N cj)) wy := by exact H1.out.at4.cellOf 0 rfl
          refine hK.out _ _ (Or.inr hS) ?_
          clear hK K
          try simp only [Act.put, List.setIfInBounds_toArray, List.set_cons_zero, List.set_cons_succ]
          refine Left.run (i := 3) rfl (by kernel_rfl) (fun K hK => ?_)
          go_simp
          go_at_call 11
          refine (refmake11 (.slice Aj N cj) zs wy W _ H1.out (fun w' h => JJ.out w' h.tail.tail.tail.tail.tail) hok.out).mono ?_
          rintro e wy ⟨BT, dT, BC, dC, rfl, H2⟩
          rw [hT.out, hC.out, hnT.out, hnC.out] at H2 ⊢
          clear H1 hS
          have H1 : Hid (Hs W wy [Blk p (.cells #[.slice none 0 0, .slice none 0 0] 30), Blk q (.cells #[.slice none 0 0, .slice none 0 0] 30), Ls ETask 42 (.slice AT nT cT) T, Ls EChn 40 (.slice AC nC cC) Cs, Ls ETask 42 (.slice BT nT dT) T, Ls EChn 40 (.slice BC nC dC) Cs, Blk b (.cells #[.slice Aj N cj] 24), Old W]) := Lib.hid ((by refine Hs.conseq (H2) fun h s => ?_; refine Sep.pickc (by first | with_reducible exact s | with_reducible exact s.at1 | with_reducible exact s.at2 | with_reducible exact s.at3 | with_reducible exact s.at4 | with_reducible exact s.at5 | with_reducible exact s.at6 | with_reducible exact s.at7) (fun h s => ?_); refine Sep.pickc (by first | with_reducible exact s | with_reducible exact s.at1 | with_reducible exact s.at2 | with_reducible exact s.at3 | with_reducible exact s.at4 | with_reducible exact s.at5 | with_reducible exact s.at6 | with_reducible exact s.at7) (fun h s => ?_); refine Sep.pickc (by first | with_reducible exact s | with_reducible exact s.at1 | with_reducible exact s.at2 | with_reducible exact s.at3 | with_reducible exact s.at4 | with_reducible exact s.at5 | with_reducible exact s.at6 | with_reducible exact s.at7) (fun h s => ?_); refine Sep.pickc (by first | with_reducible exact s | with_reducible exact s.at1 | with_reducible exact s.at2 | with_reducible exact s.at3 | with_reducible exact s.at4 | with_reducible exact s.at5 | with_reducible exact s.at6 | with_reducible exact s.at7) (fun h s => ?_); refine Sep.pickc (by first | with_reducible exact s | with_reducible exact s.at1 | with_reducible exact s.at2 | with_reducible exact s.at3 | with_reducible exact s.at4 | with_reducible exact s.at5 | with_reducible exact s.at6 | with_reducible exact s.at7) (fun h s => ?_); refine Sep.pickc (by first | with_reducible exact s | with_reducible exact s.at1 | with_reducible exact s.at2 | with_reducible exact s.at3 | with_reducible exact s.at4 | with_reducible exact s.at5 | with_reducible exact s.at6 | with_reducible exact s.at7) (fun h s => ?_); refine Sep.pickc (by first | with_reducible exact s | with_reducible exact s.at1 | with_reducible exact s.at2 | with_reducible exact s.at3 | with_reducible exact s.at4 | with_reducible exact s.at5 | with_reducible exact s.at6 | with_reducible exact s.at7) (fun h s => ?_); refine Sep.pickc (by first | with_reducible exact s | with_reducible exact s.at1 | with_reducible exact s.at2 | with_reducible exact s.at3 | with_reducible exact s.at4 | with_reducible exact s.at5 | with_reducible exact s.at6 | with_reducible exact s.at7) (fun h s => ?_); trivial))
          clear H2
          go_simp
          replace hS : (fun w' : World => w'.cell? ⟨b, 0, none⟩ = some (.slice Aj N cj)) wy := by exact H1.out.at6.cellOf 0 rfl
          refine hK.out _ _ (Or.inr hS) ?_
          clear hK K
          try simp only [Act.put, List.setIfInBounds_toArray, List.set_cons_zero, List.set_cons_succ]
          refine Left.run (i := 6) rfl (by kernel_rfl) (fun K hK => ?_)
          have H0 := Lib.hid H1.out
          have f0 := H0.out.frozenOf 0
          have f1 := H0.out.frozenOf 1
          have d0 := H0.out.cellOf 0 rfl
          have d1 := H0.out.cellOf 1 rfl
          go_simp
          have H2 := Lib.hid ((H0.out.setCell (i := 0) (.slice AT nT cT)).setCell (i := 1) (.slice AC nC cC))
          clear H0 H1 f0 f1 d0 d1 hS
          generalize World.setCell _ _ _ = wy at H2 ⊢
          simp only [List.setIfInBounds_toArray, List.set_cons_zero, List.set_cons_succ] at H2
          have H1 : Hid (Hs W wy [Blk p (.cells #[.slice AT nT cT, .slice AC nC cC] 30), Blk q (.cells #[.slice none 0 0, .slice none 0 0] 30), Ls ETask 42 (.slice AT nT cT) T, Ls EChn 40 (.slice AC nC cC) Cs, Ls ETask 42 (.slice BT nT dT) T, Ls EChn 40 (.slice BC nC dC) Cs, Blk b (.cells #[.slice Aj N cj] 24), Old W]) := Lib.hid ((by refine Hs.conseq (H2.out) fun h s => ?_; refine Sep.pickc (by first | with_reducible exact s | with_reducible exact s.at1 | with_reducible exact s.at2 | with_reducible exact s.at3 | with_reducible exact s.at4 | with_reducible exact s.at5 | with_reducible exact s.at6 | with_reducible exact s.at7) (fun h s => ?_); refine Sep.pickc (by first | with_reducible exact s | with_reducible exact s.at1 | with_reducible exact s.at2 | with_reducible exact s.at3 | with_reducible exact s.at4 | with_reducible exact s.at5 | with_reducible exact s.at6 | with_reducible exact s.at7) (fun h s => ?_); refine Sep.pickc (by first | with_reducible exact s | with_reducible exact s.at1 | with_reducible exact s.at2 | with_reducible exact s.at3 | with_reducible exact s.at4 | with_reducible exact s.at5 | with_reducible exact s.at6 | with_reducible exact s.at7) (fun h s => ?_); refine Sep.pickc (by first | with_reducible exact s | with_reducible exact s.at1 | with_reducible exact s.at2 | with_reducible exact s.at3 | with_reducible exact s.at4 | with_reducible exact s.at5 | with_reducible exact s.at6 | with_reducible exact s.at7) (fun h s => ?_); refine Sep.pickc (by first | with_reducible exact s | with_reducible exact s.at1 | with_reducible exact s.at2 | with_reducible exact s.at3 | with_reducible exact s.at4 | with_reducible exact s.at5 | with_reducible exact s.at6 | with_reducible exact s.at7) (fun h s => ?_); refine Sep.pickc (by first | with_reducible exact s | with_reducible exact s.at1 | with_reducible exact s.at2 | with_reducible exact s.at3 | with_reducible exact s.at4 | with_reducible exact s.at5 | with_reducible exact s.at6 | with_reducible exact s.at7) (fun h s => ?_); refine Sep.pickc (by first | with_reducible exact s | with_reducible exact s.at1 | with_reducible exact s.at2 | with_reducible exact s.at3 | with_reducible exact s.at4 | with_reducible exact s.at5 | with_reducible exact s.at6 | with_reducible exact s.at7) (fun h s => ?_); refine Sep.pickc (by first | with_reducible exact s | with_reducible exact s.at1 | with_reducible exact s.at2 | with_reducible exact s.at3 | with_reducible exact s.at4 | with_reducible exact s.at5 | with_reducible exact s.at6 | with_reducible exact s.at7) (fun h s => ?_); trivial))
          clear H2
          replace hS : (fun w' : World => w'.cell? ⟨b, 0, none⟩ = some (.slice Aj N cj)) wy := by exact H1.out.at6.cellOf 0 rfl
          refine hK.out _ _ (Or.inr hS) ?_
          clear hK K
          try simp only [Act.put, List.setIfInBounds_toArray, List.set_cons_zero, List.set_cons_succ]
          refine Left.run (i := 7) rfl (by kernel_rfl) (fun K hK => ?_)
          have H0 := Lib.hid H1.out.at1
          have f0 := H0.out.frozenOf 0
          have f1 := H0.out.frozenOf 1
          have d0 := H0.out.cellOf 0 rfl
          have d1 := H0.out.cellOf 1 rfl
          go_simp
          have H2 := Lib.hid ((H0.out.setCell (i := 0) (.slice BT nT dT)).setCell (i := 1) (.slice BC nC dC))
          clear H0 H1 f0 f1 d0 d1
          generalize World.setCell _ _ _ = wy at H2 ⊢
          simp only [List.setIfInBounds_toArray, List.set_cons_zero, List.set_cons_succ] at H2
          have H1 : Hid (Hs W wy [Blk p (.cells #[.slice AT nT cT, .slice AC nC cC] 30), Blk q (.cells #[.slice BT nT dT, .slice BC nC dC] 30), Ls ETask 42 (.slice AT nT cT) T, Ls EChn 40 (.slice AC nC cC) Cs, Ls ETask 42 (.slice BT nT dT) T, Ls EChn 40 (.slice BC nC dC) Cs, Blk b (.cells #[.slice Aj N cj] 24), Old W]) := Lib.hid ((by refine Hs.conseq (H2.out) fun h s => ?_; refine Sep.pickc (by first | with_reducible exact s | with_reducible exact s.at1 | with_reducible exact s.at2 | with_reducible exact s.at3 | with_reducible exact s.at4 | with_reducible exact s.at5 | with_reducible exact s.at6 | with_reducible exact s.at7) (fun h s => ?_); refine Sep.pickc (by first | with_reducible exact s | with_reducible exact s.at1 | with_reducible exact s.at2 | with_reducible exact s.at3 | with_reducible exact s.at4 | with_reducible exact s.at5 | with_reducible exact s.at6 | with_reducible exact s.at7) (fun h s => ?_); refine Sep.pickc (by first | with_reducible exact s | with_reducible exact s.at1 | with_reducible exact s.at2 | with_reducible exact s.at3 | with_reducible exact s.at4 | with_reducible exact s.at5 | with_reducible exact s.at6 | with_reducible exact s.at7) (fun h s => ?_); refine Sep.pickc (by first | with_reducible exact s | with_reducible exact s.at1 | with_reducible exact s.at2 | with_reducible exact s.at3 | with_reducible exact s.at4 | with_reducible exact s.at5 | with_reducible exact s.at6 | with_reducible exact s.at7) (fun h s => ?_); refine Sep.pickc (by first | with_reducible exact s | with_reducible exact s.at1 | with_reducible exact s.at2 | with_reducible exact s.at3 | with_reducible exact s.at4 | with_reducible exact s.at5 | with_reducible exact s.at6 | with_reducible exact s.at7) (fun h s => ?_); refine Sep.pickc (by first | with_reducible exact s | with_reducible exact s.at1 | with_reducible exact s.at2 | with_reducible exact s.at3 | with_reducible exact s.at4 | with_reducible exact s.at5 | with_reducible exact s.at6 | with_reducible exact s.at7) (fun h s => ?_); refine Sep.pickc (by first | with_reducible exact s | with_reducible exact s.at1 | with_reducible exact s.at2 | with_reducible exact s.at3 | with_reducible exact s.at4 | with_reducible exact s.at5 | with_reducible exact s.at6 | with_reducible exact s.at7) (fun h s => ?_); refine Sep.pickc (by first | with_reducible exact s | with_reducible exact s.at1 | with_reducible exact s.at2 | with_reducible exact s.at3 | with_reducible exact s.at4 | with_reducible exact s.at5 | with_reducible exact s.at6 | with_reducible exact s.at7) (fun h s => ?_); trivial))
          clear H2
          refine hK.out _ _ (Or.inl (by kernel_rfl)) ?_
          clear hK K
          try simp only [Act.put, List.setIfInBounds_toArray, List.set_cons_zero, List.set_cons_succ]
          refine Left.done (by kernel_rfl) ?_ _
          go_wp2_with fail
          go_meet
          case rel => exact ⟨p, q, AT, cT, AC, cC, BT, dT, BC, dC, rfl, rfl, H1⟩
      · skip
        have H2 := Lib.hid (H1.out.alloc (.cells #[.slice none 0 0, .slice none 0 0] 30))
        go_simp
        generalize wy.heap.size = q at H2 ⊢
        generalize World.alloc wy _ = wy at H2 ⊢
        clear H1 hS
        have H1 : Hid (Hs W wy [Blk q (.cells #[.slice none 0 0, .slice none 0 0] 30), Ls ETask 42 (.slice AT nT cT) T, Ls EChn 40 (.slice AC nC cC) Cs, Blk b (.cells #[.slice Aj N cj] 24), Old W]) := Lib.hid ((by refine Hs.conseq (H2.out) fun h s => ?_; refine Sep.pickc (by first | with_reducible exact s | with_reducible exact s.at1 | with_reducible exact s.at2 | with_reducible exact s.at3 | with_reducible exact s.at4 | with_reducible exact s.at5 | with_reducible exact s.at6 | with_reducible exact s.at7) (fun h s => ?_); refine Sep.pickc (by first | with_reducible exact s | with_reducible exact s.at1 | with_reducible exact s.at2 | with_reducible exact s.at3 | with_reducible exact s.at4 | with_reducible exact s.at5 | with_reducible exact s.at6 | with_reducible exact s.at7) (fun h s => ?_); refine Sep.pickc (by first | with_reducible exact s | with_reducible exact s.at1 | with_reducible exact s.at2 | with_reducible exact s.at3 | with_reducible exact s.at4 | with_reducible exact s.at5 | with_reducible exact s.at6 | with_reducible exact s.at7) (fun h s => ?_); refine Sep.pickc (by first | with_reducible exact s | with_reducible exact s.at1 | with_reducible exact s.at2 | with_reducible exact s.at3 | with_reducible exact s.at4 | with_reducible exact s.at5 | with_reducible exact s.at6 | with_reducible exact s.at7) (fun h s => ?_); refine Sep.pickc (by first | with_reducible exact s | with_reducible exact s.at1 | with_reducible exact s.at2 | with_reducible exact s.at3 | with_reducible exact s.at4 | with_reducible exact s.at5 | with_reducible exact s.at6 | with_reducible exact s.at7) (fun h s => ?_); trivial))
        clear H2
        replace hS : (fun w' : World => w'.cell? ⟨b, 0, none⟩ = some (.slice Aj N cj)) wy := by exact H1.out.at3.cellOf 0 rfl
        refine hK.out _ _ (Or.inr hS) ?_
        clear hK K
        try simp only [Act.put, List.setIfInBounds_toArray, List.set_cons_zero, List.set_cons_succ]
        refine Left.two (i := 3) (j := 4) rfl rfl (by kernel_rfl) (fun K hK => ?_) (fun K hK => ?_)
        · skip
          go_simp
          go_at_call 11
          refine (refmake11 (.slice Aj N cj) zs wy W _ H1.out (fun w' h => JJ.out w' h.tail.tail.tail.tail) hok.out).mono ?_
          rintro e wy ⟨BT, dT, BC, dC, rfl, H2⟩
          rw [hT.out, hC.out, hnT.out, hnC.out] at H2 ⊢
          clear H1 hS
          have H1 : Hid (Hs W wy [Blk q (.cells #[.slice none 0 0, .slice none 0 0] 30), Ls ETask 42 (.slice AT nT cT) T, Ls EChn 40 (.slice AC nC cC) Cs, Ls ETask 42 (.slice BT nT dT) T, Ls EChn 40 (.slice BC nC dC) Cs, Blk b (.cells #[.slice Aj N cj] 24), Old W]) := Lib.hid ((by refine Hs.conseq (H2) fun h s => ?_; refine Sep.pickc (by first | with_reducible exact s | with_reducible exact s.at1 | with_reducible exact s.at2 | with_reducible exact s.at3 | with_reducible exact s.at4 | with_reducible exact s.at5 | with_reducible exact s.at6 | with_reducible exact s.at7) (fun h s => ?_); refine Sep.pickc (by first | with_reducible exact s | with_reducible exact s.at1 | with_reducible exact s.at2 | with_reducible exact s.at3 | with_reducible exact s.at4 | with_reducible exact s.at5 | with_reducible exact s.at6 | with_reducible exact s.at7) (fun h s => ?_); refine Sep.pickc (by first | with_reducible exact s | with_reducible exact s.at1 | with_reducible exact s.at2 | with_reducible exact s.at3 | with_reducible exact s.at4 | with_reducible exact s.at5 | with_reducible exact s.at6 | with_reducible exact s.at7) (fun h s => ?_); refine Sep.pickc (by first | with_reducible exact s | with_reducible exact s.at1 | with_reducible exact s.at2 | with_reducible exact s.at3 | with_reducible exact s.at4 | with_reducible exact s.at5 | with_reducible exact s.at6 | with_reducible exact s.at7) (fun h s => ?_); refine Sep.pickc (by first | with_reducible exact s | with_reducible exact s.at1 | with_reducible exact s.at2 | with_reducible exact s.at3 | with_reducible exact s.at4 | with_reducible exact s.at5 | with_reducible exact s.at6 | with_reducible exact s.at7) (fun h s => ?_); refine Sep.pickc (by first | with_reducible exact s | with_reducible exact s.at1 | with_reducible exact s.at2 | with_reducible exact s.at3 | with_reducible exact s.at4 | with_reducible exact s.at5 | with_reducible exact s.at6 | with_reducible exact s.at7) (fun h s => ?_); refine Sep.pickc (by first | with_reducible exact s | with_reducible exact s.at1 | with_reducible exact s.at2 | with_reducible exact s.at3 | with_reducible exact s.at4 | with_reducible exact s.at5 | with_reducible exact s.at6 | with_reducible exact s.at7) (fun h s => ?_); trivial))
          clear H2
          go_simp
          replace hS : (fun w' : World => w'.cell? ⟨b, 0, none⟩ = some (.slice Aj N cj)) wy := by exact H1.out.at5.cellOf 0 rfl
          refine hK.out _ _ (Or.inr hS) ?_
          clear hK K
          try simp only [Act.put, List.setIfInBounds_toArray, List.set_cons_zero, List.set_cons_succ]
          refine Left.run (i := 4) rfl (by kernel_rfl) (fun K hK => ?_)
          have H2 := Lib.hid (H1.out.alloc (.cells #[.slice none 0 0, .slice none 0 0] 30))
          go_simp
          generalize wy.heap.size = p at H2 ⊢
          generalize World.alloc wy _ = wy at H2 ⊢
          clear H1 hS
          have H1 : Hid (Hs W wy [Blk p (.cells #[.slice none 0 0, .slice none 0 0] 30), Blk q (.cells #[.slice none 0 0, .slice none 0 0] 30), Ls ETask 42 (.slice AT nT cT) T, Ls EChn 40 (.slice AC nC cC) Cs, Ls ETask 42 (.slice BT nT dT) T, Ls EChn 40 (.slice BC nC dC) Cs, Blk b (.cells #[.slice Aj N cj] 24), Old W]) := Lib.hid ((by refine Hs.conseq (H2.out) fun h s => ?_; refine Sep.pickc (by first | with_reducible exact s | with_reducible exact s.at1 | with_reducible exact s.at2 | with_reducible exact s.at3 | with_reducible exact s.at4 | with_reducible exact s.at5 | with_reducible exact s.at6 | with_reducible exact s.at7) (fun h s => ?_); refine Sep.pickc (by first | with_reducible exact s | with_reducible exact s.at1 | with_reducible exact s.at2 | with_reducible exact s.at3 | with_reducible exact s.at4 | with_reducible exact s.at5 | with_reducible exact s.at6 | with_reducible exact s.at7) (fun h s => ?_); refine Sep.pickc (by first | with_reducible exact s | with_reducible exact s.at1 | with_reducible exact s.at2 | with_reducible exact s.at3 | with_reducible exact s.at4 | with_reducible exact s.at5 | with_reducible exact s.at6 | with_reducible exact s.at7) (fun h s => ?_); refine Sep.pickc (by first | with_reducible exact s | with_reducible exact s.at1 | with_reducible exact s.at2 | with_reducible exact s.at3 | with_reducible exact s.at4 | with_reducible exact s.at5 | with_reducible exact s.at6 | with_reducible exact s.at7) (fun h s => ?_); refine Sep.pickc (by first | with_reducible exact s | with_reducible exact s.at1 | with_reducible exact s.at2 | with_reducible exact s.at3 | with_reducible exact s.at4 | with_reducible exact s.at5 | with_reducible exact s.at6 | with_reducible exact s.at7) (fun h s => ?_); refine Sep.pickc (by first | with_reducible exact s | with_reducible exact s.at1 | with_reducible exact s.at2 | with_reducible exact s.at3 | with_reducible exact s.at4 | with_reducible exact s.at5 | with_reducible exact s.at6 | with_reducible exact s.at7) (fun h s => ?_); refine Sep.pickc (by first | with_reducible exact s | with_reducible exact s.at1 | with_reducible exact s.at2 | with_reducible exact s.at3 | with_reducible exact s.at4 | with_reducible exact s.at5 | with_reducible exact s.at6 | with_reducible exact s.at7) (fun h s => ?_); refine Sep.pickc (by first | with_reducible exact s | with_reducible exact s.at1 | with_reducible exact s.at2 | with_reducible exact s.at3 | with_reducible exact s.at4 | with_reducible exact s.at5 | with_reducible exact s.at6 | with_reducible exact s.at7) (fun h s => ?_); trivial))
          clear H2
          replace hS : (fun w' : World => w'.cell? ⟨b, 0, none⟩ = some (.slice Aj N cj)) wy := by exact H1.out.at6.cellOf 0 rfl
          refine hK.out _ _ (Or.inr hS) ?_
          clear hK K
          try simp only [Act.put, List.setIfInBounds_toArray, List.set_cons_zero, List.set_cons_succ]
          refine Left.run (i := 6) rfl (by kernel_rfl) (fun K hK => ?_)
          have H0 := Lib.hid H1.out
          have f0 := H0.out.frozenOf 0
          have f1 := H0.out.frozenOf 1
          have d0 := H0.out.cellOf 0 rfl
          have d1 := H0.out.cellOf 1 rfl
          go_simp
          have H2 := Lib.hid ((H0.out.setCell (i := 0) (.slice AT nT cT)).setCell (i := 1) (.slice AC nC cC))
          clear H0 H1 f0 f1 d0 d1 hS
          generalize World.setCell _ _ _ = wy at H2 ⊢
          simp only [List.setIfInBounds_toArray, List.set_cons_zero, List.set_cons_succ] at H2
          have H1 : Hid (Hs W wy [Blk p (.cells #[.slice AT nT cT, .slice AC nC cC] 30), Blk q (.cells #[.slice none 0 0, .slice none 0 0] 30), Ls ETask 42 (.slice AT nT cT) T, Ls EChn 40 (.slice AC nC cC) Cs, Ls ETask 42 (.slice BT nT dT) T, Ls EChn 40 (.slice BC nC dC) Cs, Blk b (.cells #[.slice Aj N cj] 24), Old W]) := Lib.hid ((by refine Hs.conseq (H2.out) fun h s => ?_; refine Sep.pickc (by first | with_reducible exact s | with_reducible exact s.at1 | with_reducible exact s.at2 | with_reducible exact s.at3 | with_reducible exact s.at4 | with_reducible exact s.at5 | with_reducible exact s.at6 | with_reducible exact s.at7) (fun h s => ?_); refine Sep.pickc (by first | with_reducible exact s | with_reducible exact s.at1 | with_reducible exact s.at2 | with_reducible exact s.at3 | with_reducible exact s.at4 | with_reducible exact s.at5 | with_reducible exact s.at6 | with_reducible exact s.at7) (fun h s => ?_); refine Sep.pickc (by first | with_reducible exact s | with_reducible exact s.at1 | with_reducible exact s.at2 | with_reducible exact s.at3 | with_reducible exact s.at4 | with_reducible exact s.at5 | with_reducible exact s.at6 | with_reducible exact s.at7) (fun h s => ?_); refine Sep.pickc (by first | with_reducible exact s | with_reducible exact s.at1 | with_reducible exact s.at2 | with_reducible exact s.at3 | with_reducible exact s.at4 | with_reducible exact s.at5 | with_reducible exact s.at6 | with_reducible exact s.at7) (fun h s => ?_); refine Sep.pickc (by first | with_reducible exact s | with_reducible exact s.at1 | with_reducible exact s.at2 | with_reducible exact s.at3 | with_reducible exact s.at4 | with_reducible exact s.at5 | with_reducible exact s.at6 | with_reducible exact s.at7) (fun h s => ?_); refine Sep.pickc (by first | with_reducible exact s | with_reducible exact s.at1 | with_reducible exact s.at2 | with_reducible exact s.at3 | with_reducible exact s.at4 | with_reducible exact s.at5 | with_reducible exact s.at6 | with_reducible exact s.at7) (fun h s => ?_); refine Sep.pickc (by first | with_reducible exact s | with_reducible exact s.at1 | with_reducible exact s.at2 | with_reducible exact s.at3 | with_reducible exact s.at4 | with_reducible exact s.at5 | with_reducible exact s.at6 | with_reducible exact s.at7) (fun h s => ?_); refine Sep.pickc (by first | with_reducible exact s | with_reducible exact s.at1 | with_reducible exact s.at2 | with_reducible exact s.at3 | with_reducible exact s.at4 | with_reducible exact s.at5 | with_reducible exact s.at6 | with_reducible exact s.at7) (fun h s => ?_); trivial))
          clear H2
          replace hS : (fun w' : World => w'.cell? ⟨b, 0, none⟩ = some (.slice Aj N cj)) wy := by exact H1.out.at6.cellOf 0 rfl
          refine hK.out _ _ (Or.inr hS) ?_
          clear hK K
          try simp only [Act.put, List.setIfInBounds_toArray, List.set_cons_zero, List.set_cons_succ]
          refine Left.run (i := 7) rfl (by kernel_rfl) (fun K hK => ?_)
          have H0 := Lib.hid H1.out.at1
          have f0 := H0.out.frozenOf 0
          have f1 := H0.out.frozenOf 1
          have d0 := H0.out.cellOf 0 rfl
          have d1 := H0.out.cellOf 1 rfl
          go_simp
          have H2 := Lib.hid ((H0.out.setCell (i := 0) (.slice BT nT dT)).setCell (i := 1) (.slice BC nC dC))
          clear H0 H1 f0 f1 d0 d1
          generalize World.setCell _ _ _ = wy at H2 ⊢
          simp only [List.setIfInBounds_toArray, List.set_cons_zero, List.set_cons_succ] at H2
          have H1 : Hid (Hs W wy [Blk p (.cells #[.slice AT nT cT, .slice AC nC cC] 30), Blk q (.cells #[.slice BT nT dT, .slice BC nC dC] 30), Ls ETask 42 (.slice AT nT cT) T, Ls EChn 40 (.slice AC nC cC) Cs, Ls ETask 42 (.slice BT nT dT) T, Ls EChn 40 (.slice BC nC dC) Cs, Blk b (.cells #[.slice Aj N cj] 24), Old W]) := Lib.hid ((by refine Hs.conseq (H2.out) fun h s => ?_; refine Sep.pickc (by first | with_reducible exact s | with_reducible exact s.at1 | with_reducible exact s.at2 | with_reducible exact s.at3 | with_reducible exact s.at4 | with_reducible exact s.at5 | with_reducible exact s.at6 | with_reducible exact s.at7) (fun h s => ?_); refine Sep.pickc (by first | with_reducible exact s | with_reducible exact s.at1 | with_reducible exact s.at2 | with_reducible exact s.at3 | with_reducible exact s.at4 | with_reducible exact s.at5 | with_reducible exact s.at6 | with_reducible exact s.at7) (fun h s => ?_); refine Sep.pickc (by first | with_reducible exact s | with_reducible exact s.at1 | with_reducible exact s.at2 | with_reducible exact s.at3 | with_reducible exact s.at4 | with_reducible exact s.at5 | with_reducible exact s.at6 | with_reducible exact s.at7) (fun h s => ?_); refine Sep.pickc (by first | with_reducible exact s | with_reducible exact s.at1 | with_reducible exact s.at2 | with_reducible exact s.at3 | with_reducible exact s.at4 | with_reducible exact s.at5 | with_reducible exact s.at6 | with_reducible exact s.at7) (fun h s => ?_); refine Sep.pickc (by first | with_reducible exact s | with_reducible exact s.at1 | with_reducible exact s.at2 | with_reducible exact s.at3 | with_reducible exact s.at4 | with_reducible exact s.at5 | with_reducible exact s.at6 | with_reducible exact s.at7) (fun h s => ?_); refine Sep.pickc (by first | with_reducible exact s | with_reducible exact s.at1 | with_reducible exact s.at2 | with_reducible exact s.at3 | with_reducible exact s.at4 | with_reducible exact s.at5 | with_reducible exact s.at6 | with_reducible exact s.at7) (fun h s => ?_); refine Sep.pickc (by first | with_reducible exact s | with_reducible exact s.at1 | with_reducible exact s.at2 | with_reducible exact s.at3 | with_reducible exact s.at4 | with_reducible exact s.at5 | with_reducible exact s.at6 | with_reducible exact s.at7) (fun h s => ?_); refine Sep.pickc (by first | with_reducible exact s | with_reducible exact s.at1 | with_reducible exact s.at2 | with_reducible exact s.at3 | with_reducible exact s.at4 | with_reducible exact s.at5 | with_reducible exact s.at6 | with_reducible exact s.at7) (fun h s => ?_); trivial))
          clear H2
          refine hK.out _ _ (Or.inl (by kernel_rfl)) ?_
          clear hK K
          try simp only [Act.put, List.setIfInBounds_toArray, List.set_cons_zero, List.set_cons_succ]
          refine Left.done (by kernel_rfl) ?_ _
          go_wp2_with fail
          go_meet
          case rel => exact ⟨p, q, AT, cT, AC, cC, BT, dT, BC, dC, rfl, rfl, H1⟩
        · skip
          have H2 := Lib.hid (H1.out.alloc (.cells #[.slice none 0 0, .slice none 0 0] 30))
          go_simp
          generalize wy.heap.size = p at H2 ⊢
          generalize World.alloc wy _ = wy at H2 ⊢
          clear H1 hS
          have H1 : Hid (Hs W wy [Blk p (.cells #[.slice none 0 0, .slice none 0 0] 30), Blk q (.cells #[.slice none 0 0, .slice none 0 0] 30), Ls ETask 42 (.slice AT nT cT) T, Ls EChn 40 (.slice AC nC cC) Cs, Blk b (.cells #[.slice Aj N cj] 24), Old W]) := Lib.hid ((by refine Hs.conseq (H2.out) fun h s => ?_; refine Sep.pickc (by first | with_reducible exact s | with_reducible exact s.at1 | with_reducible exact s.at2 | with_reducible exact s.at3 | with_reducible exact s.at4 | with_reducible exact s.at5 | with_reducible exact s.at6 | with_reducible exact s.at7) (fun h s => ?_); refine Sep.pickc (by first | with_reducible exact s | with_reducible exact s.at1 | with_reducible exact s.at2 | with_reducible exact s.at3 | with_reducible exact s.at4 | with_reducible exact s.at5 | with_reducible exact s.at6 | with_reducible exact s.at7) (fun h s => ?_); refine Sep.pickc (by first | with_reducible exact s | with_reducible exact s.at1 | with_reducible exact s.at2 | with_reducible exact s.at3 | with_reducible exact s.at4 | with_reducible exact s.at5 | with_reducible exact s.at6 | with_reducible exact s.at7) (fun h s => ?_); refine Sep.pickc (by first | with_reducible exact s | with_reducible exact s.at1 | with_reducible exact s.at2 | with_reducible exact s.at3 | with_reducible exact s.at4 | with_reducible exact s.at5 | with_reducible exact s.at6 | with_reducible exact s.at7) (fun h s => ?_); refine Sep.pickc (by first | with_reducible exact s | with_reducible exact s.at1 | with_reducible exact s.at2 | with_reducible exact s.at3 | with_reducible exact s.at4 | with_reducible exact s.at5 | with_reducible exact s.at6 | with_reducible exact s.at7) (fun h s => ?_); refine Sep.pickc (by first | with_reducible exact s | with_reducible exact s.at1 | with_reducible exact s.at2 | with_reducible exact s.at3 | with_reducible exact s.at4 | with_reducible exact s.at5 | with_reducible exact s.at6 | with_reducible exact s.at7) (fun h s => ?_); trivial))
          clear H2
          replace hS : (fun w' : World => w'.cell? ⟨b, 0, none⟩ = some (.slice Aj N cj)) wy := by exact H1.out.at4.cellOf 0 rfl
          refine hK.out _ _ (Or.inr hS) ?_
          clear hK K
          try simp only [Act.put, List.setIfInBounds_toArray, List.set_cons_zero, List.set_cons_succ]
          refine Left.run (i := 3) rfl (by kernel_rfl) (fun K hK => ?_)
          go_simp
          go_at_call 11
          refine (refmake11 (.slice Aj N cj) zs wy W _ H1.out (fun w' h => JJ.out w' h.tail.tail.tail.tail.tail) hok.out).mono ?_
          rintro e wy ⟨BT, dT, BC, dC, rfl, H2⟩
          rw [hT.out, hC.out, hnT.out, hnC.out] at H2 ⊢
          clear H1 hS
          have H1 : Hid (Hs W wy [Blk p (.cells #[.slice none 0 0, .slice none 0 0] 30), Blk q (.cells #[.slice none 0 0, .slice none 0 0] 30), Ls ETask 42 (.slice AT nT cT) T, Ls EChn 40 (.slice AC nC cC) Cs, Ls ETask 42 (.slice BT nT dT) T, Ls EChn 40 (.slice BC nC dC) Cs, Blk b (.cells #[.slice Aj N cj] 24), Old W]) := Lib.hid ((by refine Hs.conseq (H2) fun h s => ?_; refine Sep.pickc (by first | with_reducible exact s | with_reducible exact s.at1 | with_reducible exact s.at2 | with_reducible exact s.at3 | with_reducible exact s.at4 | with_reducible exact s.at5 | with_reducible exact s.at6 | with_reducible exact s.at7) (fun h s => ?_); refine Sep.pickc (by first | with_reducible exact s | with_reducible exact s.at1 | with_reducible exact s.at2 | with_reducible exact s.at3 | with_reducible exact s.at4 | with_reducible exact s.at5 | with_reducible exact s.at6 | with_reducible exact s.at7) (fun h s => ?_); refine Sep.pickc (by first | with_reducible exact s | with_reducible exact s.at1 | with_reducible exact s.at2 | with_reducible exact s.at3 | with_reducible exact s.at4 | with_reducible exact s.at5 | with_reducible exact s.at6 | with_reducible exact s.at7) (fun h s => ?_); refine Sep.pickc (by first | with_reducible exact s | with_reducible exact s.at1 | with_reducible exact s.at2 | with_reducible exact s.at3 | with_reducible exact s.at4 | with_reducible exact s.at5 | with_reducible exact s.at6 | with_reducible exact s.at7) (fun h s => ?_); refine Sep.pickc (by first | with_reducible exact s | with_reducible exact s.at1 | with_reducible exact s.at2 | with_reducible exact s.at3 | with_reducible exact s.at4 | with_reducible exact s.at5 | with_reducible exact s.at6 | with_reducible exact s.at7) (fun h s => ?_); refine Sep.pickc (by first | with_reducible exact s | with_reducible exact s.at1 | with_reducible exact s.at2 | with_reducible exact s.at3 | with_reducible exact s.at4 | with_reducible exact s.at5 | with_reducible exact s.at6 | with_reducible exact s.at7) (fun h s => ?_); refine Sep.pickc (by first | with_reducible exact s | with_reducible exact s.at1 | with_reducible exact s.at2 | with_reducible exact s.at3 | with_reducible exact s.at4 | with_reducible exact s.at5 | with_reducible exact s.at6 | with_reducible exact s.at7) (fun h s => ?_); refine Sep.pickc (by first | with_reducible exact s | with_reducible exact s.at1 | with_reducible exact s.at2 | with_reducible exact s.at3 | with_reducible exact s.at4 | with_reducible exact s.at5 | with_reducible exact s.at6 | with_reducible exact s.at7) (fun h s => ?_); trivial))
          clear H2
          go_simp
          replace hS : (fun w' : World => w'.cell? ⟨b, 0, none⟩ = some (.slice Aj N cj)) wy := by exact H1.out.at6.cellOf 0 rfl
          refine hK.out _ _ (Or.inr hS) ?_
          clear hK K
          try simp only [Act.put, List.setIfInBounds_toArray, List.set_cons_zero, List.set_cons_succ]
          refine Left.run (i := 6) rfl (by kernel_rfl) (fun K hK => ?_)
          have H0 := Lib.hid H1.out
          have f0 := H0.out.frozenOf 0
          have f1 := H0.out.frozenOf 1
          have d0 := H0.out.cellOf 0 rfl
          have d1 := H0.out.cellOf 1 rfl
          go_simp
          have H2 := Lib.hid ((H0.out.setCell (i := 0) (.slice AT nT cT)).setCell (i := 1) (.slice AC nC cC))
          clear H0 H1 f0 f1 d0 d1 hS
          generalize World.setCell _ _ _ = wy at H2 ⊢
          simp only [List.setIfInBounds_toArray, List.set_cons_zero, List.set_cons_succ] at H2
          have H1 : Hid (Hs W wy [Blk p (.cells #[.slice AT nT cT, .slice AC nC cC] 30), Blk q (.cells #[.slice none 0 0, .slice none 0 0] 30), Ls ETask 42 (.slice AT nT cT) T, Ls EChn 40 (.slice AC nC cC) Cs, Ls ETask 42 (.slice BT nT dT) T, Ls EChn 40 (.slice BC nC dC) Cs, Blk b (.cells #[.slice Aj N cj] 24), Old W]) := Lib.hid ((by refine Hs.conseq (H2.out) fun h s => ?_; refine Sep.pickc (by first | with_reducible exact s | with_reducible exact s.at1 | with_reducible exact s.at2 | with_reducible exact s.at3 | with_reducible exact s.at4 | with_reducible exact s.at5 | with_reducible exact s.at6 | with_reducible exact s.at7) (fun h s => ?_); refine Sep.pickc (by first | with_reducible exact s | with_reducible exact s.at1 | with_reducible exact s.at2 | with_reducible exact s.at3 | with_reducible exact s.at4 | with_reducible exact s.at5 | with_reducible exact s.at6 | with_reducible exact s.at7) (fun h s => ?_); refine Sep.pickc (by first | with_reducible exact s | with_reducible exact s.at1 | with_reducible exact s.at2 | with_reducible exact s.at3 | with_reducible exact s.at4 | with_reducible exact s.at5 | with_reducible exact s.at6 | with_reducible exact s.at7) (fun h s => ?_); refine Sep.pickc (by first | with_reducible exact s | with_reducible exact s.at1 | with_reducible exact s.at2 | with_reducible exact s.at3 | with_reducible exact s.at4 | with_reducible exact s.at5 | with_reducible exact s.at6 | with_reducible exact s.at7) (fun h s => ?_); refine Sep.pickc (by first | with_reducible exact s | with_reducible exact s.at1 | with_reducible exact s.at2 | with_reducible exact s.at3 | with_reducible exact s.at4 | with_reducible exact s.at5 | with_reducible exact s.at6 | with_reducible exact s.at7) (fun h s => ?_); refine Sep.pickc (by first | with_reducible exact s | with_reducible exact s.at1 | with_reducible exact s.at2 | with_reducible exact s.at3 | with_reducible exact s.at4 | with_reducible exact s.at5 | with_reducible exact s.at6 | with_reducible exact s.at7) (fun h s => ?_); refine Sep.pickc (by first | with_reducible exact s | with_reducible exact s.at1 | with_reducible exact s.at2 | with_reducible exact s.at3 | with_reducible exact s.at4 | with_reducible exact s.at5 | with_reducible exact s.at6 | with_reducible exact s.at7) (fun h s => ?_); refine Sep.pickc (by first | with_reducible exact s | with_reducible exact s.at1 | with_reducible exact s.at2 | with_reducible exact s.at3 | with_reducible exact s.at4 | with_reducible exact s.at5 | with_reducible exact s.at6 | with_reducible exact s.at7) (fun h s => ?_); trivial))
          clear H2
          replace hS : (fun w' : World => w'.cell? ⟨b, 0, none⟩ = some (.slice Aj N cj)) wy := by exact H1.out.at6.cellOf 0 rfl
          refine hK.out _ _ (Or.inr hS) ?_
          clear hK K
          try simp only [Act.put, List.setIfInBounds_toArray, List.set_cons_zero, List.set_cons_succ]
          refine Left.run (i := 7) rfl (by kernel_rfl) (fun K hK => ?_)
          have H0 := Lib.hid H1.out.at1
          have f0 := H0.out.frozenOf 0
          have f1 := H0.out.frozenOf 1
          have d0 := H0.out.cellOf 0 rfl
          have d1 := H0.out.cellOf 1 rfl
          go_simp
          have H2 := Lib.hid ((H0.out.setCell (i := 0) (.slice BT nT dT)).setCell (i := 1) (.slice BC nC dC))
          clear H0 H1 f0 f1 d0 d1
          generalize World.setCell _ _ _ = wy at H2 ⊢
          simp only [List.setIfInBounds_toArray, List.set_cons_zero, List.set_cons_succ] at H2
          have H1 : Hid (Hs W wy [Blk p (.cells #[.slice AT nT cT, .slice AC nC cC] 30), Blk q (.cells #[.slice BT nT dT, .slice BC nC dC] 30), Ls ETask 42 (.slice AT nT cT) T, Ls EChn 40 (.slice AC nC cC) Cs, Ls ETask 42 (.slice BT nT dT) T, Ls EChn 40 (.slice BC nC dC) Cs, Blk b (.cells #[.slice Aj N cj] 24), Old W]) := Lib.hid ((by refine Hs.conseq (H2.out) fun h s => ?_; refine Sep.pickc (by first | with_reducible exact s | with_reducible exact s.at1 | with_reducible exact s.at2 | with_reducible exact s.at3 | with_reducible exact s.at4 | with_reducible exact s.at5 | with_reducible exact s.at6 | with_reducible exact s.at7) (fun h s => ?_); refine Sep.pickc (by first | with_reducible exact s | with_reducible exact s.at1 | with_reducible exact s.at2 | with_reducible exact s.at3 | with_reducible exact s.at4 | with_reducible exact s.at5 | with_reducible exact s.at6 | with_reducible exact s.at7) (fun h s => ?_); refine Sep.pickc (by first | with_reducible exact s | with_reducible exact s.at1 | with_reducible exact s.at2 | with_reducible exact s.at3 | with_reducible exact s.at4 | with_reducible exact s.at5 | with_reducible exact s.at6 | with_reducible exact s.at7) (fun h s => ?_); refine Sep.pickc (by first | with_reducible exact s | with_reducible exact s.at1 | with_reducible exact s.at2 | with_reducible exact s.at3 | with_reducible exact s.at4 | with_reducible exact s.at5 | with_reducible exact s.at6 | with_reducible exact s.at7) (fun h s => ?_); refine Sep.pickc (by first | with_reducible exact s | with_reducible exact s.at1 | with_reducible exact s.at2 | with_reducible exact s.at3 | with_reducible exact s.at4 | with_reducible exact s.at5 | with_reducible exact s.at6 | with_reducible exact s.at7) (fun h s => ?_); refine Sep.pickc (by first | with_reducible exact s | with_reducible exact s.at1 | with_reducible exact s.at2 | with_reducible exact s.at3 | with_reducible exact s.at4 | with_reducible exact s.at5 | with_reducible exact s.at6 | with_reducible exact s.at7) (fun h s => ?_); refine Sep.pickc (by first | with_reducible exact s | with_reducible exact s.at1 | with_reducible exact s.at2 | with_reducible exact s.at3 | with_reducible exact s.at4 | with_reducible exact s.at5 | with_reducible exact s.at6 | with_reducible exact s.at7) (fun h s => ?_); refine Sep.pickc (by first | with_reducible exact s | with_reducible exact s.at1 | with_reducible exact s.at2 | with_reducible exact s.at3 | with_reducible exact s.at4 | with_reducible exact s.at5 | with_reducible exact s.at6 | with_reducible exact s.at7) (fun h s => ?_); trivial))
          clear H2
          refine hK.out _ _ (Or.inl (by kernel_rfl)) ?_
          clear hK K
          try simp only [Act.put, List.setIfInBounds_toArray, List.set_cons_zero, List.set_cons_succ]
          refine Left.done (by kernel_rfl) ?_ _
          go_wp2_with fail
          go_meet
          case rel => exact ⟨p, q, AT, cT, AC, cC, BT, dT, BC, dC, rfl, rfl, H1⟩
    · skip
      have H2 := Lib.hid (H1.out.alloc (.cells #[.slice none 0 0, .slice none 0 0] 30))
      go_simp
      generalize wy.heap.size = p at H2 ⊢
      generalize World.alloc wy _ = wy at H2 ⊢
      clear H1 hS
      have H1 : Hid (Hs W wy [Blk p (.cells #[.slice none 0 0, .slice none 0 0] 30), Blk b (.cells #[.slice Aj N cj] 24), Old W]) := Lib.hid ((by refine Hs.conseq (H2.out) fun h s => ?_; refine Sep.pickc (by first | with_reducible exact s | with_reducible exact s.at1 | with_reducible exact s.at2 | with_reducible exact s.at3 | with_reducible exact s.at4 | with_reducible exact s.at5 | with_reducible exact s.at6 | with_reducible exact s.at7) (fun h s => ?_); refine Sep.pickc (by first | with_reducible exact s | with_reducible exact s.at1 | with_reducible exact s.at2 | with_reducible exact s.at3 | with_reducible exact s.at4 | with_reducible exact s.at5 | with_reducible exact s.at6 | with_reducible exact s.at7) (fun h s => ?_); refine Sep.pickc (by first | with_reducible exact s | with_reducible exact s.at1 | with_reducible exact s.at2 | with_reducible exact s.at3 | with_reducible exact s.at4 | with_reducible exact s.at5 | with_reducible exact s.at6 | with_reducible exact s.at7) (fun h s => ?_); trivial))
      clear H2
      replace hS : (fun w' : World => w'.cell? ⟨b, 0, none⟩ = some (.slice Aj N cj)) wy := by exact H1.out.at1.cellOf 0 rfl
      refine hK.out _ _ (Or.inr hS) ?_
      clear hK K
      try simp only [Act.put, List.setIfInBounds_toArray, List.set_cons_zero, List.set_cons_succ]
      refine Left.two (i := 1) (j := 5) rfl rfl (by kernel_rfl) (fun K hK => ?_) (fun K hK => ?_)
      · skip
        go_simp
        go_at_call 10
        refine (make10 (.slice Aj N cj) zs wy W _ H1.out (fun w' h => JJ.out w' h.tail.tail) (by rw [hN.out]; omega) (fun z hz => by have := (hok.out.node z hz).few; omega)).mono ?_
        rintro e wy ⟨AT, cT, AC, cC, rfl, H2⟩
        rw [hT.out, hC.out, hnT.out, hnC.out] at H2 ⊢
        clear H1 hS
        have H1 : Hid (Hs W wy [Blk p (.cells #[.slice none 0 0, .slice none 0 0] 30), Ls ETask 42 (.slice AT nT cT) T, Ls EChn 40 (.slice AC nC cC) Cs, Blk b (.cells #[.slice Aj N cj] 24), Old W]) := Lib.hid ((by refine Hs.conseq (H2) fun h s => ?_; refine Sep.pickc (by first | with_reducible exact s | with_reducible exact s.at1 | with_reducible exact s.at2 | with_reducible exact s.at3 | with_reducible exact s.at4 | with_reducible exact s.at5 | with_reducible exact s.at6 | with_reducible exact s.at7) (fun h s => ?_); refine Sep.pickc (by first | with_reducible exact s | with_reducible exact s.at1 | with_reducible exact s.at2 | with_reducible exact s.at3 | with_reducible exact s.at4 | with_reducible exact s.at5 | with_reducible exact s.at6 | with_reducible exact s.at7) (fun h s => ?_); refine Sep.pickc (by first | with_reducible exact s | with_reducible exact s.at1 | with_reducible exact s.at2 | with_reducible exact s.at3 | with_reducible exact s.at4 | with_reducible exact s.at5 | with_reducible exact s.at6 | with_reducible exact s.at7) (fun h s => ?_); refine Sep.pickc (by first | with_reducible exact s | with_reducible exact s.at1 | with_reducible exact s.at2 | with_reducible exact s.at3 | with_reducible exact s.at4 | with_reducible exact s.at5 | with_reducible exact s.at6 | with_reducible exact s.at7) (fun h s => ?_); refine Sep.pickc (by first | with_reducible exact s | with_reducible exact s.at1 | with_reducible exact s.at2 | with_reducible exact s.at3 | with_reducible exact s.at4 | with_reducible exact s.at5 | with_reducible exact s.at6 | with_reducible exact s.at7) (fun h s => ?_); trivial))
        clear H2
        go_simp
        replace hS : (fun w' : World => w'.cell? ⟨b, 0, none⟩ = some (.slice Aj N cj)) wy := by exact H1.out.at3.cellOf 0 rfl
        refine hK.out _ _ (Or.inr hS) ?_
        clear hK K
        try simp only [Act.put, List.setIfInBounds_toArray, List.set_cons_zero, List.set_cons_succ]
        refine Left.two (i := 3) (j := 5) rfl rfl (by kernel_rfl) (fun K hK => ?_) (fun K hK => ?_)
        · skip
          go_simp
          go_at_call 11
          refine (refmake11 (.slice Aj N cj) zs wy W _ H1.out (fun w' h => JJ.out w' h.tail.tail.tail.tail) hok.out).mono ?_
          rintro e wy ⟨BT, dT, BC, dC, rfl, H2⟩
          rw [hT.out, hC.out, hnT.out, hnC.out] at H2 ⊢
          clear H1 hS
          have H1 : Hid (Hs W wy [Blk p (.cells #[.slice none 0 0, .slice none 0 0] 30), Ls ETask 42 (.slice AT nT cT) T, Ls EChn 40 (.slice AC nC cC) Cs, Ls ETask 42 (.slice BT nT dT) T, Ls EChn 40 (.slice BC nC dC) Cs, Blk b (.cells #[.slice Aj N cj] 24), Old W]) := Lib.hid ((by refine Hs.conseq (H2) fun h s => ?_; refine Sep.pickc (by first | with_reducible exact s | with_reducible exact s.at1 | with_reducible exact s.at2 | with_reducible exact s.at3 | with_reducible exact s.at4 | with_reducible exact s.at5 | with_reducible exact s.at6 | with_reducible exact s.at7) (fun h s => ?_); refine Sep.pickc (by first | with_reducible exact s | with_reducible exact s.at1 | with_reducible exact s.at2 | with_reducible exact s.at3 | with_reducible exact s.at4 | with_reducible exact s.at5 | with_reducible exact s.at6 | with_reducible exact s.at7) (fun h s => ?_); refine Sep.pickc (by first | with_reducible exact s | with_reducible exact s.at1 | with_reducible exact s.at2 | with_reducible exact s.at3 | with_reducible exact s.at4 | with_reducible exact s.at5 | with_reducible exact s.at6 | with_reducible exact s.at7) (fun h s => ?_); refine Sep.pickc (by first | with_reducible exact s | with_reducible exact s.at1 | with_reducible exact s.at2 | with_reducible exact s.at3 | with_reducible exact s.at4 | with_reducible exact s.at5 | with_reducible exact s.at6 | with_reducible exact s.at7) (fun h s => ?_); refine Sep.pickc (by first | with_reducible exact s | with_reducible exact s.at1 | with_reducible exact s.at2 | with_reducible exact s.at3 | with_reducible exact s.at4 | with_reducible exact s.at5 | with_reducible exact s.at6 | with_reducible exact s.at7) (fun h s => ?_); refine Sep.pickc (by first | with_reducible exact s | with_reducible exact s.at1 | with_reducible exact s.at2 | with_reducible exact s.at3 | with_reducible exact s.at4 | with_reducible exact s.at5 | with_reducible exact s.at6 | with_reducible exact s.at7) (fun h s => ?_); refine Sep.pickc (by first | with_reducible exact s | with_reducible exact s.at1 | with_reducible exact s.at2 | with_reducible exact s.at3 | with_reducible exact s.at4 | with_reducible exact s.at5 | with_reducible exact s.at6 | with_reducible exact s.at7) (fun h s => ?_); trivial))
          clear H2
          go_simp
          replace hS : (fun w' : World => w'.cell? ⟨b, 0, none⟩ = some (.slice Aj N cj)) wy := by exact H1.out.at5.cellOf 0 rfl
          refine hK.out _ _ (Or.inr hS) ?_
          clear hK K
          try simp only [Act.put, List.setIfInBounds_toArray, List.set_cons_zero, List.set_cons_succ]
          refine Left.run (i := 5) rfl (by kernel_rfl) (fun K hK => ?_)
          have H2 := Lib.hid (H1.out.alloc (.cells #[.slice none 0 0, .slice none 0 0] 30))
          go_simp
          generalize wy.heap.size = q at H2 ⊢
          generalize World.alloc wy _ = wy at H2 ⊢
          clear H1 hS
          have H1 : Hid (Hs W wy [Blk p (.cells #[.slice none 0 0, .slice none 0 0] 30), Blk q (.cells #[.slice none 0 0, .slice none 0 0] 30), Ls ETask 42 (.slice AT nT cT) T, Ls EChn 40 (.slice AC nC cC) Cs, Ls ETask 42 (.slice BT nT dT) T, Ls EChn 40 (.slice BC nC dC) Cs, Blk b (.cells #[.slice Aj N cj] 24), Old W]) := Lib.hid ((by refine Hs.conseq (H2.out) fun h s => ?_; refine Sep.pickc (by first | with_reducible exact s | with_reducible exact s.at1 | with_reducible exact s.at2 | with_reducible exact s.at3 | with_reducible exact s.at4 | with_reducible exact s.at5 | with_reducible exact s.at6 | with_reducible exact s.at7) (fun h s => ?_); refine Sep.pickc (by first | with_reducible exact s | with_reducible exact s.at1 | with_reducible exact s.at2 | with_reducible exact s.at3 | with_reducible exact s.at4 | with_reducible exact s.at5 | with_reducible exact s.at6 | with_reducible exact s.at7) (fun h s => ?_); refine Sep.pickc (by first | with_reducible exact s | with_reducible exact s.at1 | with_reducible exact s.at2 | with_reducible exact s.at3 | with_reducible exact s.at4 | with_reducible exact s.at5 | with_reducible exact s.at6 | with_reducible exact s.at7) (fun h s => ?_); refine Sep.pickc (by first | with_reducible exact s | with_reducible exact s.at1 | with_reducible exact s.at2 | with_reducible exact s.at3 | with_reducible exact s.at4 | with_reducible exact s.at5 | with_reducible exact s.at6 | with_reducible exact s.at7) (fun h s => ?_); refine Sep.pickc (by first | with_reducible exact s | with_reducible exact s.at1 | with_reducible exact s.at2 | with_reducible exact s.at3 | with_reducible exact s.at4 | with_reducible exact s.at5 | with_reducible exact s.at6 | with_reducible exact s.at7) (fun h s => ?_); refine Sep.pickc (by first | with_reducible exact s | with_reducible exact s.at1 | with_reducible exact s.at2 | with_reducible exact s.at3 | with_reducible exact s.at4 | with_reducible exact s.at5 | with_reducible exact s.at6 | with_reducible exact s.at7) (fun h s => ?_); refine Sep.pickc (by first | with_reducible exact s | with_reducible exact s.at1 | with_reducible exact s.at2 | with_reducible exact s.at3 | with_reducible exact s.at4 | with_reducible exact s.at5 | with_reducible exact s.at6 | with_reducible exact s.at7) (fun h s => ?_); refine Sep.pickc (by first | with_reducible exact s | with_reducible exact s.at1 | with_reducible exact s.at2 | with_reducible exact s.at3 | with_reducible exact s.at4 | with_reducible exact s.at5 | with_reducible exact s.at6 | with_reducible exact s.at7) (fun h s => ?_); trivial))
          clear H2
          replace hS : (fun w' : World => w'.cell? ⟨b, 0, none⟩ = some (.slice Aj N cj)) wy := by exact H1.out.at6.cellOf 0 rfl
          refine hK.out _ _ (Or.inr hS) ?_
          clear hK K
          try simp only [Act.put, List.setIfInBounds_toArray, List.set_cons_zero, List.set_cons_succ]
          refine Left.run (i := 6) rfl (by kernel_rfl) (fun K hK => ?_)
          have H0 := Lib.hid H1.out
          have f0 := H0.out.frozenOf 0
          have f1 := H0.out.frozenOf 1
          have d0 := H0.out.cellOf 0 rfl
          have d1 := H0.out.cellOf 1 rfl
          go_simp
          have H2 := Lib.hid ((H0.out.setCell (i := 0) (.slice AT nT cT)).setCell (i := 1) (.slice AC nC cC))
          clear H0 H1 f0 f1 d0 d1 hS
          generalize World.setCell _ _ _ = wy at H2 ⊢
          simp only [List.setIfInBounds_toArray, List.set_cons_zero, List.set_cons_succ] at H2
          have H1 : Hid (Hs W wy [Blk p (.cells #[.slice AT nT cT, .slice AC nC cC] 30), Blk q (.cells #[.slice none 0 0, .slice none 0 0] 30), Ls ETask 42 (.slice AT nT cT) T, Ls EChn 40 (.slice AC nC cC) Cs, Ls ETask 42 (.slice BT nT dT) T, Ls EChn 40 (.slice BC nC dC) Cs, Blk b (.cells #[.slice Aj N cj] 24), Old W]) := Lib.hid ((by refine Hs.conseq (H2.out) fun h s => ?_; refine Sep.pickc (by first | with_reducible exact s | with_reducible exact s.at1 | with_reducible exact s.at2 | with_reducible exact s.at3 | with_reducible exact s.at4 | with_reducible exact s.at5 | with_reducible exact s.at6 | with_reducible exact s.at7) (fun h s => ?_); refine Sep.pickc (by first | with_reducible exact s | with_reducible exact s.at1 | with_reducible exact s.at2 | with_reducible exact s.at3 | with_reducible exact s.at4 | with_reducible exact s.at5 | with_reducible exact s.at6 | with_reducible exact s.at7) (fun h s => ?_); refine Sep.pickc (by first | with_reducible exact s | with_reducible exact s.at1 | with_reducible exact s.at2 | with_reducible exact s.at3 | with_reducible exact s.at4 | with_reducible exact s.at5 | with_reducible exact s.at6 | with_reducible exact s.at7) (fun h s => ?_); refine Sep.pickc (by first | with_reducible exact s | with_reducible exact s.at1 | with_reducible exact s.at2 | with_reducible exact s.at3 | with_reducible exact s.at4 | with_reducible exact s.at5 | with_reducible exact s.at6 | with_reducible exact s.at7) (fun h s => ?_); refine Sep.pickc (by first | with_reducible exact s | with_reducible exact s.at1 | with_reducible exact s.at2 | with_reducible exact s.at3 | with_reducible exact s.at4 | with_reducible exact s.at5 | with_reducible exact s.at6 | with_reducible exact s.at7) (fun h s => ?_); refine Sep.pickc (by first | with_reducible exact s | with_reducible exact s.at1 | with_reducible exact s.at2 | with_reducible exact s.at3 | with_reducible exact s.at4 | with_reducible exact s.at5 | with_reducible exact s.at6 | with_reducible exact s.at7) (fun h s => ?_); refine Sep.pickc (by first | with_reducible exact s | with_reducible exact s.at1 | with_reducible exact s.at2 | with_reducible exact s.at3 | with_reducible exact s.at4 | with_reducible exact s.at5 | with_reducible exact s.at6 | with_reducible exact s.at7) (fun h s => ?_); refine Sep.pickc (by first | with_reducible exact s | with_reducible exact s.at1 | with_reducible exact s.at2 | with_reducible exact s.at3 | with_reducible exact s.at4 | with_reducible exact s.at5 | with_reducible exact s.at6 | with_reducible exact s.at7) (fun h s => ?_); trivial))
          clear H2
          replace hS : (fun w' : World => w'.cell? ⟨b, 0, none⟩ = some (.slice Aj N cj)) wy := by exact H1.out.at6.cellOf 0 rfl
          refine hK.out _ _ (Or.inr hS) ?_
          clear hK K
          try simp only [Act.put, List.setIfInBounds_toArray, List.set_cons_zero, List.set_cons_succ]
          refine Left.run (i := 7) rfl (by kernel_rfl) (fun K hK => ?_)
          have H0 := Lib.hid H1.out.at1
          have f0 := H0.out.frozenOf 0
          have f1 := H0.out.frozenOf 1
          have d0 := H0.out.cellOf 0 rfl
          have d1 := H0.out.cellOf 1 rfl
          go_simp
          have H2 := Lib.hid ((H0.out.setCell (i := 0) (.slice BT nT dT)).setCell (i := 1) (.slice BC nC dC))
          clear H0 H1 f0 f1 d0 d1
          generalize World.setCell _ _ _ = wy at H2 ⊢
          simp only [List.setIfInBounds_toArray, List.set_cons_zero, List.set_cons_succ] at H2
          have H1 : Hid (Hs W wy [Blk p (.cells #[.slice AT nT cT, .slice AC nC cC] 30), Blk q (.cells #[.slice BT nT dT, .slice BC nC dC] 30), Ls ETask 42 (.slice AT nT cT) T, Ls EChn 40 (.slice AC nC cC) Cs, Ls ETask 42 (.slice BT nT dT) T, Ls EChn 40 (.slice BC nC dC) Cs, Blk b (.cells #[.slice Aj N cj] 24), Old W]) := Lib.hid ((by refine Hs.conseq (H2.out) fun h s => ?_; refine Sep.pickc (by first | with_reducible exact s | with_reducible exact s.at1 | with_reducible exact s.at2 | with_reducible exact s.at3 | with_reducible exact s.at4 | with_reducible exact s.at5 | with_reducible exact s.at6 | with_reducible exact s.at7) (fun h s => ?_); refine Sep.pickc (by first | with_reducible exact s | with_reducible exact s.at1 | with_reducible exact s.at2 | with_reducible exact s.at3 | with_reducible exact s.at4 | with_reducible exact s.at5 | with_reducible exact s.at6 | with_reducible exact s.at7) (fun h s => ?_); refine Sep.pickc (by first | with_reducible exact s | with_reducible exact s.at1 | with_reducible exact s.at2 | with_reducible exact s.at3 | with_reducible exact s.at4 | with_reducible exact s.at5 | with_reducible exact s.at6 | with_reducible exact s.at7) (fun h s => ?_); refine Sep.pickc (by first | with_reducible exact s | with_reducible exact s.at1 | with_reducible exact s.at2 | with_reducible exact s.at3 | with_reducible exact s.at4 | with_reducible exact s.at5 | with_reducible exact s.at6 | with_reducible exact s.at7) (fun h s => ?_); refine Sep.pickc (by first | with_reducible exact s | with_reducible exact s.at1 | with_reducible exact s.at2 | with_reducible exact s.at3 | with_reducible exact s.at4 | with_reducible exact s.at5 | with_reducible exact s.at6 | with_reducible exact s.at7) (fun h s => ?_); refine Sep.pickc (by first | with_reducible exact s | with_reducible exact s.at1 | with_reducible exact s.at2 | with_reducible exact s.at3 | with_reducible exact s.at4 | with_reducible exact s.at5 | with_reducible exact s.at6 | with_reducible exact s.at7) (fun h s => ?_); refine Sep.pickc (by first | with_reducible exact s | with_reducible exact s.at1 | with_reducible exact s.at2 | with_reducible exact s.at3 | with_reducible exact s.at4 | with_reducible exact s.at5 | with_reducible exact s.at6 | with_reducible exact s.at7) (fun h s => ?_); refine Sep.pickc (by first | with_reducible exact s | with_reducible exact s.at1 | with_reducible exact s.at2 | with_reducible exact s.at3 | with_reducible exact s.at4 | with_reducible exact s.at5 | with_reducible exact s.at6 | with_reducible exact s.at7) (fun h s => ?_); trivial))
          clear H2
          refine hK.out _ _ (Or.inl (by kernel_rfl)) ?_
          clear hK K
          try simp only [Act.put, List.setIfInBounds_toArray, List.set_cons_zero, List.set_cons_succ]
          refine Left.done (by kernel_rfl) ?_ _
          go_wp2_with fail
          go_meet
          case rel => exact ⟨p, q, AT, cT, AC, cC, BT, dT, BC, dC, rfl, rfl, H1⟩
        · skip
          have H2 := Lib.hid (H1.out.alloc (.cells #[.slice none 0 0, .slice none 0 0] 30))
          go_simp
          generalize wy.heap.size = q at H2 ⊢
          generalize World.alloc wy _ = wy at H2 ⊢
          clear H1 hS
          have H1 : Hid (Hs W wy [Blk p (.cells #[.slice none 0 0, .slice none 0 0] 30), Blk q (.cells #[.slice none 0 0, .slice none 0 0] 30), Ls ETask 42 (.slice AT nT cT) T, Ls EChn 40 (.slice AC nC cC) Cs, Blk b (.cells #[.slice Aj N cj] 24), Old W]) := Lib.hid ((by refine Hs.conseq (H2.out) fun h s => ?_; refine Sep.pickc (by first | with_reducible exact s | with_reducible exact s.at1 | with_reducible exact s.at2 | with_reducible exact s.at3 | with_reducible exact s.at4 | with_reducible exact s.at5 | with_reducible exact s.at6 | with_reducible exact s.at7) (fun h s => ?_); refine Sep.pickc (by first | with_reducible exact s | with_reducible exact s.at1 | with_reducible exact s.at2 | with_reducible exact s.at3 | with_reducible exact s.at4 | with_reducible exact s.at5 | with_reducible exact s.at6 | with_reducible exact s.at7) (fun h s => ?_); refine Sep.pickc (by first | with_reducible exact s | with_reducible exact s.at1 | with_reducible exact s.at2 | with_reducible exact s.at3 | with_reducible exact s.at4 | with_reducible exact s.at5 | with_reducible exact s.at6 | with_reducible exact s.at7) (fun h s => ?_); refine Sep.pickc (by first | with_reducible exact s | with_reducible exact s.at1 | with_reducible exact s.at2 | with_reducible exact s.at3 | with_reducible exact s.at4 | with_reducible exact s.at5 | with_reducible exact s.at6 | with_reducible exact s.at7) (fun h s => ?_); refine Sep.pickc (by first | with_reducible exact s | with_reducible exact s.at1 | with_reducible exact s.at2 | with_reducible exact s.at3 | with_reducible exact s.at4 | with_reducible exact s.at5 | with_reducible exact s.at6 | with_reducible exact s.at7) (fun h s => ?_); refine Sep.pickc (by first | with_reducible exact s | with_reducible exact s.at1 | with_reducible exact s.at2 | with_reducible exact s.at3 | with_reducible exact s.at4 | with_reducible exact s.at5 | with_reducible exact s.at6 | with_reducible exact s.at7) (fun h s => ?_); trivial))
          clear H2
          replace hS : (fun w' : World => w'.cell? ⟨b, 0, none⟩ = some (.slice Aj N cj)) wy := by exact H1.out.at4.cellOf 0 rfl
          refine hK.out _ _ (Or.inr hS) ?_
          clear hK K
          try simp only [Act.put, List.setIfInBounds_toArray, List.set_cons_zero, List.set_cons_succ]
          refine Left.run (i := 3) rfl (by kernel_rfl) (fun K hK => ?_)
          go_simp
          go_at_call 11
          refine (refmake11 (.slice Aj N cj) zs wy W _ H1.out (fun w' h => JJ.out w' h.tail.tail.tail.tail.tail) hok.out).mono ?_
          rintro e wy ⟨BT, dT, BC, dC, rfl, H2⟩
          rw [hT.out, hC.out, hnT.out, hnC.out] at H2 ⊢
          clear H1 hS
          have H1 : Hid (Hs W wy [Blk p (.cells #[.slice none 0 0, .slice none 0 0] 30), Blk q (.cells #[.slice none 0 0, .slice none 0 0] 30), Ls ETask 42 (.slice AT nT cT) T, Ls EChn 40 (.slice AC nC cC) Cs, Ls ETask 42 (.slice BT nT dT) T, Ls EChn 40 (.slice BC nC dC) Cs, Blk b (.cells #[.slice Aj N cj] 24), Old W]) := Lib.hid ((by refine Hs.conseq (H2) fun h s => ?_; refine Sep.pickc (by first | with_reducible exact s | with_reducible exact s.at1 | with_reducible exact s.at2 | with_reducible exact s.at3 | with_reducible exact s.at4 | with_reducible exact s.at5 | with_reducible exact s.at6 | with_reducible exact s.at7) (fun h s => ?_); refine Sep.pickc (by first | with_reducible exact s | with_reducible exact s.at1 | with_reducible exact s.at2 | with_reducible exact s.at3 | with_reducible exact s.at4 | with_reducible exact s.at5 | with_reducible exact s.at6 | with_reducible exact s.at7) (fun h s => ?_); refine Sep.pickc (by first | with_reducible exact s | with_reducible exact s.at1 | with_reducible exact s.at2 | with_reducible exact s.at3 | with_reducible exact s.at4 | with_reducible exact s.at5 | with_reducible exact s.at6 | with_reducible exact s.at7) (fun h s => ?_); refine Sep.pickc (by first | with_reducible exact s | with_reducible exact s.at1 | with_reducible exact s.at2 | with_reducible exact s.at3 | with_reducible exact s.at4 | with_reducible exact s.at5 | with_reducible exact s.at6 | with_reducible exact s.at7) (fun h s => ?_); refine Sep.pickc (by first | with_reducible exact s | with_reducible exact s.at1 | with_reducible exact s.at2 | with_reducible exact s.at3 | with_reducible exact s.at4 | with_reducible exact s.at5 | with_reducible exact s.at6 | with_reducible exact s.at7) (fun h s => ?_); refine Sep.pickc (by first | with_reducible exact s | with_reducible exact s.at1 | with_reducible exact s.at2 | with_reducible exact s.at3 | with_reducible exact s.at4 | with_reducible exact s.at5 | with_reducible exact s.at6 | with_reducible exact s.at7) (fun h s => ?_); refine Sep.pickc (by first | with_reducible exact s | with_reducible exact s.at1 | with_reducible exact s.at2 | with_reducible exact s.at3 | with_reducible exact s.at4 | with_reducible exact s.at5 | with_reducible exact s.at6 | with_reducible exact s.at7) (fun h s => ?_); refine Sep.pickc (by first | with_reducible exact s | with_reducible exact s.at1 | with_reducible exact s.at2 | with_reducible exact s.at3 | with_reducible exact s.at4 | with_reducible exact s.at5 | with_reducible exact s.at6 | with_reducible exact s.at7) (fun h s => ?_); trivial))
          clear H2
          go_simp
          replace hS : (fun w' : World => w'.cell? ⟨b, 0, none⟩ = some (.slice Aj N cj)) wy := by exact H1.out.at6.cellOf 0 rfl
          refine hK.out _ _ (Or.inr hS) ?_
          clear hK K
          try simp only [Act.put, List.setIfInBounds_toArray, List.set_cons_zero, List.set_cons_succ]
          refine Left.run (i := 6) rfl (by kernel_rfl) (fun K hK => ?_)
          have H0 := Lib.hid H1.out
          have f0 := H0.out.frozenOf 0
          have f1 := H0.out.frozenOf 1
          have d0 := H0.out.cellOf 0 rfl
          have d1 := H0.out.cellOf 1 rfl
          go_simp
          have H2 := Lib.hid ((H0.out.setCell (i := 0) (.slice AT nT cT)).setCell (i := 1) (.slice AC nC cC))
          clear H0 H1 f0 f1 d0 d1 hS
          generalize World.setCell _ _ _ = wy at H2 ⊢
          simp only [List.setIfInBounds_toArray, List.set_cons_zero, List.set_cons_succ] at H2
          have H1 : Hid (Hs W wy [Blk p (.cells #[.slice AT nT cT, .slice AC nC cC] 30), Blk q (.cells #[.slice none 0 0, .slice none 0 0] 30), Ls ETask 42 (.slice AT nT cT) T, Ls EChn 40 (.slice AC nC cC) Cs, Ls ETask 42 (.slice BT nT dT) T, Ls EChn 40 (.slice BC nC dC) Cs, Blk b (.cells #[.slice Aj N cj] 24), Old W]) := Lib.hid ((by refine Hs.conseq (H2.out) fun h s => ?_; refine Sep.pickc (by first | with_reducible exact s | with_reducible exact s.at1 | with_reducible exact s.at2 | with_reducible exact s.at3 | with_reducible exact s.at4 | with_reducible exact s.at5 | with_reducible exact s.at6 | with_reducible exact s.at7) (fun h s => ?_); refine Sep.pickc (by first | with_reducible exact s | with_reducible exact s.at1 | with_reducible exact s.at2 | with_reducible exact s.at3 | with_reducible exact s.at4 | with_reducible exact s.at5 | with_reducible exact s.at6 | with_reducible exact s.at7) (fun h s => ?_); refine Sep.pickc (by first | with_reducible exact s | with_reducible exact s.at1 | with_reducible exact s.at2 | with_reducible exact s.at3 | with_reducible exact s.at4 | with_reducible exact s.at5 | with_reducible exact s.at6 | with_reducible exact s.at7) (fun h s => ?_); refine Sep.pickc (by first | with_reducible exact s | with_reducible exact s.at1 | with_reducible exact s.at2 | with_reducible exact s.at3 | with_reducible exact s.at4 | with_reducible exact s.at5 | with_reducible exact s.at6 | with_reducible exact s.at7) (fun h s => ?_); refine Sep.pickc (by first | with_reducible exact s | with_reducible exact s.at1 | with_reducible exact s.at2 | with_reducible exact s.at3 | with_reducible exact s.at4 | with_reducible exact s.at5 | with_reducible exact s.at6 | with_reducible exact s.at7) (fun h s => ?_); refine Sep.pickc (by first | with_reducible exact s | with_reducible exact s.at1 | with_reducible exact s.at2 | with_reducible exact s.at3 | with_reducible exact s.at4 | with_reducible exact s.at5 | with_reducible exact s.at6 | with_reducible exact s.at7) (fun h s => ?_); refine Sep.pickc (by first | with_reducible exact s | with_reducible exact s.at1 | with_reducible exact s.at2 | with_reducible exact s.at3 | with_reducible exact s.at4 | with_reducible exact s.at5 | with_reducible exact s.at6 | with_reducible exact s.at7) (fun h s => ?_); refine Sep.pickc (by first | with_reducible exact s | with_reducible exact s.at1 | with_reducible exact s.at2 | with_reducible exact s.at3 | with_reducible exact s.at4 | with_reducible exact s.at5 | with_reducible exact s.at6 | with_reducible exact s.at7) (fun h s => ?_); trivial))
          clear H2
          replace hS : (fun w' : World => w'.cell? ⟨b, 0, none⟩ = some (.slice Aj N cj)) wy := by exact H1.out.at6.cellOf 0 rfl
          refine hK.out _ _ (Or.inr hS) ?_
          clear hK K
          try simp only [Act.put, List.setIfInBounds_toArray, List.set_cons_zero, List.set_cons_succ]
          refine Left.run (i := 7) rfl (by kernel_rfl) (fun K hK => ?_)
          have H0 := Lib.hid H1.out.at1
          have f0 := H0.out.frozenOf 0
          have f1 := H0.out.frozenOf 1
          have d0 := H0.out.cellOf 0 rfl
          have d1 := H0.out.cellOf 1 rfl
          go_simp
          have H2 := Lib.hid ((H0.out.setCell (i := 0) (.slice BT nT dT)).setCell (i := 1) (.slice BC nC dC))
          clear H0 H1 f0 f1 d0 d1
          generalize World.setCell _ _ _ = wy at H2 ⊢
          simp only [List.setIfInBounds_toArray, List.set_cons_zero, List.set_cons_succ] at H2
          have H1 : Hid (Hs W wy [Blk p (.cells #[.slice AT nT cT, .slice AC nC cC] 30), Blk q (.cells #[.slice BT nT dT, .slice BC nC dC] 30), Ls ETask 42 (.slice AT nT cT) T, Ls EChn 40 (.slice AC nC cC) Cs, Ls ETask 42 (.slice BT nT dT) T, Ls EChn 40 (.slice BC nC dC) Cs, Blk b (.cells #[.slice Aj N cj] 24), Old W]) := Lib.hid ((by refine Hs.conseq (H2.out) fun h s => ?_; refine Sep.pickc (by first | with_reducible exact s | with_reducible exact s.at1 | with_reducible exact s.at2 | with_reducible exact s.at3 | with_reducible exact s.at4 | with_reducible exact s.at5 | with_reducible exact s.at6 | with_reducible exact s.at7) (fun h s => ?_); refine Sep.pickc (by first | with_reducible exact s | with_reducible exact s.at1 | with_reducible exact s.at2 | with_reducible exact s.at3 | with_reducible exact s.at4 | with_reducible exact s.at5 | with_reducible exact s.at6 | with_reducible exact s.at7) (fun h s => ?_); refine Sep.pickc (by first | with_reducible exact s | with_reducible exact s.at1 | with_reducible exact s.at2 | with_reducible exact s.at3 | with_reducible exact s.at4 | with_reducible exact s.at5 | with_reducible exact s.at6 | with_reducible exact s.at7) (fun h s => ?_); refine Sep.pickc (by first | with_reducible exact s | with_reducible exact s.at1 | with_reducible exact s.at2 | with_reducible exact s.at3 | with_reducible exact s.at4 | with_reducible exact s.at5 | with_reducible exact s.at6 | with_reducible exact s.at7) (fun h s => ?_); refine Sep.pickc (by first | with_reducible exact s | with_reducible exact s.at1 | with_reducible exact s.at2 | with_reducible exact s.at3 | with_reducible exact s.at4 | with_reducible exact s.at5 | with_reducible exact s.at6 | with_reducible exact s.at7) (fun h s => ?_); refine Sep.pickc (by first | with_reducible exact s | with_reducible exact s.at1 | with_reducible exact s.at2 | with_reducible exact s.at3 | with_reducible exact s.at4 | with_reducible exact s.at5 | with_reducible exact s.at6 | with_reducible exact s.at7) (fun h s => ?_); refine Sep.pickc (by first | with_reducible exact s | with_reducible exact s.at1 | with_reducible exact s.at2 | with_reducible exact s.at3 | with_reducible exact s.at4 | with_reducible exact s.at5 | with_reducible exact s.at6 | with_reducible exact s.at7) (fun h s => ?_); refine Sep.pickc (by first | with_reducible exact s | with_reducible exact s.at1 | with_reducible exact s.at2 | with_reducible exact s.at3 | with_reducible exact s.at4 | with_reducible exact s.at5 | with_reducible exact s.at6 | with_reducible exact s.at7) (fun h s => ?_); trivial))
          clear H2
          refine hK.out _ _ (Or.inl (by kernel_rfl)) ?_
          clear hK K
          try simp only [Act.put, List.setIfInBounds_toArray, List.set_cons_zero, List.set_cons_succ]
          refine Left.done (by kernel_rfl) ?_ _
          go_wp2_with fail
          go_meet
          case rel => exact ⟨p, q, AT, cT, AC, cC, BT, dT, BC, dC, rfl, rfl, H1⟩
      · skip
        have H2 := Lib.hid (H1.out.alloc (.cells #[.slice none 0 0, .slice none 0 0] 30))
        go_simp
        generalize wy.heap.size = q at H2 ⊢
        generalize World.alloc wy _ = wy at H2 ⊢
        clear H1 hS
        have H1 : Hid (Hs W wy [Blk p (.cells #[.slice none 0 0, .slice none 0 0] 30), Blk q (.cells #[.slice none 0 0, .slice none 0 0] 30), Blk b (.cells #[.slice Aj N cj] 24), Old W]) := Lib.hid ((by refine Hs.conseq (H2.out) fun h s => ?_; refine Sep.pickc (by first | with_reducible exact s | with_reducible exact s.at1 | with_reducible exact s.at2 | with_reducible exact s.at3 | with_reducible exact s.at4 | with_reducible exact s.at5 | with_reducible exact s.at6 | with_reducible exact s.at7) (fun h s => ?_); refine Sep.pickc (by first | with_reducible exact s | with_reducible exact s.at1 | with_reducible exact s.at2 | with_reducible exact s.at3 | with_reducible exact s.at4 | with_reducible exact s.at5 | with_reducible exact s.at6 | with_reducible exact s.at7) (fun h s => ?_); refine Sep.pickc (by first | with_reducible exact s | with_reducible exact s.at1 | with_reducible exact s.at2 | with_reducible exact s.at3 | with_reducible exact s.at4 | with_reducible exact s.at5 | with_reducible exact s.at6 | with_reducible exact s.at7) (fun h s => ?_); refine Sep.pickc (by first | with_reducible exact s | with_reducible exact s.at1 | with_reducible exact s.at2 | with_reducible exact s.at3 | with_reducible exact s.at4 | with_reducible exact s.at5 | with_reducible exact s.at6 | with_reducible exact s.at7) (fun h s => ?_); trivial))
        clear H2
        replace hS : (fun w' : World => w'.cell? ⟨b, 0, none⟩ = some (.slice Aj N cj)) wy := by exact H1.out.at2.cellOf 0 rfl
        refine hK.out _ _ (Or.inr hS) ?_
        clear hK K
        try simp only [Act.put, List.setIfInBounds_toArray, List.set_cons_zero, List.set_cons_succ]
        refine Left.run (i := 1) rfl (by kernel_rfl) (fun K hK => ?_)
        go_simp
        go_at_call 10
        refine (make10 (.slice Aj N cj) zs wy W _ H1.out (fun w' h => JJ.out w' h.tail.tail.tail) (by rw [hN.out]; omega) (fun z hz => by have := (hok.out.node z hz).few; omega)).mono ?_
        rintro e wy ⟨AT, cT, AC, cC, rfl, H2⟩
        rw [hT.out, hC.out, hnT.out, hnC.out] at H2 ⊢
        clear H1 hS
        have H1 : Hid (Hs W wy [Blk p (.cells #[.slice none 0 0, .slice none 0 0] 30), Blk q (.cells #[.slice none 0 0, .slice none 0 0] 30), Ls ETask 42 (.slice AT nT cT) T, Ls EChn 40 (.slice AC nC cC) Cs, Blk b (.cells #[.slice Aj N cj] 24), Old W]) := Lib.hid ((by refine Hs.conseq (H2) fun h s => ?_; refine Sep.pickc (by first | with_reducible exact s | with_reducible exact s.at1 | with_reducible exact s.at2 | with_reducible exact s.at3 | with_reducible exact s.at4 | with_reducible exact s.at5 | with_reducible exact s.at6 | with_reducible exact s.at7) (fun h s => ?_); refine Sep.pickc (by first | with_reducible exact s | with_reducible exact s.at1 | with_reducible exact s.at2 | with_reducible exact s.at3 | with_reducible exact s.at4 | with_reducible exact s.at5 | with_reducible exact s.at6 | with_reducible exact s.at7) (fun h s => ?_); refine Sep.pickc (by first | with_reducible exact s | with_reducible exact s.at1 | with_reducible exact s.at2 | with_reducible exact s.at3 | with_reducible exact s.at4 | with_reducible exact s.at5 | with_reducible exact s.at6 | with_reducible exact s.at7) (fun h s => ?_); refine Sep.pickc (by first | with_reducible exact s | with_reducible exact s.at1 | with_reducible exact s.at2 | with_reducible exact s.at3 | with_reducible exact s.at4 | with_reducible exact s.at5 | with_reducible exact s.at6 | with_reducible exact s.at7) (fun h s => ?_); refine Sep.pickc (by first | with_reducible exact s | with_reducible exact s.at1 | with_reducible exact s.at2 | with_reducible exact s.at3 | with_reducible exact s.at4 | with_reducible exact s.at5 | with_reducible exact s.at6 | with_reducible exact s.at7) (fun h s => ?_); refine Sep.pickc (by first | with_reducible exact s | with_reducible exact s.at1 | with_reducible exact s.at2 | with_reducible exact s.at3 | with_reducible exact s.at4 | with_reducible exact s.at5 | with_reducible exact s.at6 | with_reducible exact s.at7) (fun h s => ?_); trivial))
        clear H2
        go_simp
        replace hS : (fun w' : World => w'.cell? ⟨b, 0, none⟩ = some (.slice Aj N cj)) wy := by exact H1.out.at4.cellOf 0 rfl
        refine hK.out _ _ (Or.inr hS) ?_
        clear hK K
        try simp only [Act.put, List.setIfInBounds_toArray, List.set_cons_zero, List.set_cons_succ]
        refine Left.run (i := 3) rfl (by kernel_rfl) (fun K hK => ?_)
        go_simp
        go_at_call 11
        refine (refmake11 (.slice Aj N cj) zs wy W _ H1.out (fun w' h => JJ.out w' h.tail.tail.tail.tail.tail) hok.out).mono ?_
        rintro e wy ⟨BT, dT, BC, dC, rfl, H2⟩
        rw [hT.out, hC.out, hnT.out, hnC.out] at H2 ⊢
        clear H1 hS
        have H1 : Hid (Hs W wy [Blk p (.cells #[.slice none 0 0, .slice none 0 0] 30), Blk q (.cells #[.slice none 0 0, .slice none 0 0] 30), Ls ETask 42 (.slice AT nT cT) T, Ls EChn 40 (.slice AC nC cC) Cs, Ls ETask 42 (.slice BT nT dT) T, Ls EChn 40 (.slice BC nC dC) Cs, Blk b (.cells #[.slice Aj N cj] 24), Old W]) := Lib.hid ((by refine Hs.conseq (H2) fun h s => ?_; refine Sep.pickc (by first | with_reducible exact s | with_reducible exact s.at1 | with_reducible exact s.at2 | with_reducible exact s.at3 | with_reducible exact s.at4 | with_reducible exact s.at5 | with_reducible exact s.at6 | with_reducible exact s.at7) (fun h s => ?_); refine Sep.pickc (by first | with_reducible exact s | with_reducible exact s.at1 | with_reducible exact s.at2 | with_reducible exact s.at3 | with_reducible exact s.at4 | with_reducible exact s.at5 | with_reducible exact s.at6 | with_reducible exact s.at7) (fun h s => ?_); refine Sep.pickc (by first | with_reducible exact s | with_reducible exact s.at1 | with_reducible exact s.at2 | with_reducible exact s.at3 | with_reducible exact s.at4 | with_reducible exact s.at5 | with_reducible exact s.at6 | with_reducible exact s.at7) (fun h s => ?_); refine Sep.pickc (by first | with_reducible exact s | with_reducible exact s.at1 | with_reducible exact s.at2 | with_reducible exact s.at3 | with_reducible exact s.at4 | with_reducible exact s.at5 | with_reducible exact s.at6 | with_reducible exact s.at7) (fun h s => ?_); refine Sep.pickc (by first | with_reducible exact s | with_reducible exact s.at1 | with_reducible exact s.at2 | with_reducible exact s.at3 | with_reducible exact s.at4 | with_reducible exact s.at5 | with_reducible exact s.at6 | with_reducible exact s.at7) (fun h s => ?_); refine Sep.pickc (by first | with_reducible exact s | with_reducible exact s.at1 | with_reducible exact s.at2 | with_reducible exact s.at3 | with_reducible exact s.at4 | with_reducible exact s.at5 | with_reducible exact s.at6 | with_reducible exact s.at7) (fun h s => ?_); refine Sep.pickc (by first | with_reducible exact s | with_reducible exact s.at1 | with_reducible exact s.at2 | with_reducible exact s.at3 | with_reducible exact s.at4 | with_reducible exact s.at5 | with_reducible exact s.at6 | with_reducible exact s.at7) (fun h s => ?_); refine Sep.pickc (by first | with_reducible exact s | with_reducible exact s.at1 | with_reducible exact s.at2 | with_reducible exact s.at3 | with_reducible exact s.at4 | with_reducible exact s.at5 | with_reducible exact s.at6 | with_reducible exact s.at7) (fun h s => ?_); trivial))
        clear H2
        go_simp
        replace hS : (fun w' : World => w'.cell? ⟨b, 0, none⟩ = some (.slice Aj N cj)) wy := by exact H1.out.at6.cellOf 0 rfl
        refine hK.out _ _ (Or.inr hS) ?_
        clear hK K
        try simp only [Act.put, List.setIfInBounds_toArray, List.set_cons_zero, List.set_cons_succ]
        refine Left.run (i := 6) rfl (by kernel_rfl) (fun K hK => ?_)
        have H0 := Lib.hid H1.out
        have f0 := H0.out.frozenOf 0
        have f1 := H0.out.frozenOf 1
        have d0 := H0.out.cellOf 0 rfl
        have d1 := H0.out.cellOf 1 rfl
        go_simp
        have H2 := Lib.hid ((H0.out.setCell (i := 0) (.slice AT nT cT)).setCell (i := 1) (.slice AC nC cC))
        clear H0 H1 f0 f1 d0 d1 hS
        generalize World.setCell _ _ _ = wy at H2 ⊢
        simp only [List.setIfInBounds_toArray, List.set_cons_zero, List.set_cons_succ] at H2
        have H1 : Hid (Hs W wy [Blk p (.cells #[.slice AT nT cT, .slice AC nC cC] 30), Blk q (.cells #[.slice none 0 0, .slice none 0 0] 30), Ls ETask 42 (.slice AT nT cT) T, Ls EChn 40 (.slice AC nC cC) Cs, Ls ETask 42 (.slice BT nT dT) T, Ls EChn 40 (.slice BC nC dC) Cs, Blk b (.cells #[.slice Aj N cj] 24), Old W]) := Lib.hid ((by refine Hs.conseq (H2.out) fun h s => ?_; refine Sep.pickc (by first | with_reducible exact s | with_reducible exact s.at1 | with_reducible exact s.at2 | with_reducible exact s.at3 | with_reducible exact s.at4 | with_reducible exact s.at5 | with_reducible exact s.at6 | with_reducible exact s.at7) (fun h s => ?_); refine Sep.pickc (by first | with_reducible exact s | with_reducible exact s.at1 | with_reducible exact s.at2 | with_reducible exact s.at3 | with_reducible exact s.at4 | with_reducible exact s.at5 | with_reducible exact s.at6 | with_reducible exact s.at7) (fun h s => ?_); refine Sep.pickc (by first | with_reducible exact s | with_reducible exact s.at1 | with_reducible exact s.at2 | with_reducible exact s.at3 | with_reducible exact s.at4 | with_reducible exact s.at5 | with_reducible exact s.at6 | with_reducible exact s.at7) (fun h s => ?_); refine Sep.pickc (by first | with_reducible exact s | with_reducible exact s.at1 | with_reducible exact s.at2 | with_reducible exact s.at3 | with_reducible exact s.at4 | with_reducible exact s.at5 | with_reducible exact s.at6 | with_reducible exact s.at7) (fun h s => ?_); refine Sep.pickc (by first | with_reducible exact s | with_reducible exact s.at1 | with_reducible exact s.at2 | with_reducible exact s.at3 | with_reducible exact s.at4 | with_reducible exact s.at5 | with_reducible exact s.at6 | with_reducible exact s.at7) (fun h s => ?_); refine Sep.pickc (by first | with_reducible exact s | with_reducible exact s.at1 | with_reducible exact s.at2 | with_reducible exact s.at3 | with_reducible exact s.at4 | with_reducible exact s.at5 | with_reducible exact s.at6 | with_reducible exact s.at7) (fun h s => ?_); refine Sep.pickc (by first | with_reducible exact s | with_reducible exact s.at1 | with_reducible exact s.at2 | with_reducible exact s.at3 | with_reducible exact s.at4 | with_reducible exact s.at5 | with_reducible exact s.at6 | with_reducible exact s.at7) (fun h s => ?_); refine Sep.pickc (by first | with_reducible exact s | with_reducible exact s.at1 | with_reducible exact s.at2 | with_reducible exact s.at3 | with_reducible exact s.at4 | with_reducible exact s.at5 | with_reducible exact s.at6 | with_reducible exact s.at7) (fun h s => ?_); trivial))
        clear H2
        replace hS : (fun w' : World => w'.cell? ⟨b, 0, none⟩ = some (.slice Aj N cj)) wy := by exact H1.out.at6.cellOf 0 rfl
        refine hK.out _ _ (Or.inr hS) ?_
        clear hK K
        try simp only [Act.put, List.setIfInBounds_toArray, List.set_cons_zero, List.set_cons_succ]
        refine Left.run (i := 7) rfl (by kernel_rfl) (fun K hK => ?_)
        have H0 := Lib.hid H1.out.at1
        have f0 := H0.out.frozenOf 0
        have f1 := H0.out.frozenOf 1
        have d0 := H0.out.cellOf 0 rfl
        have d1 := H0.out.cellOf 1 rfl
        go_simp
        have H2 := Lib.hid ((H0.out.setCell (i := 0) (.slice BT nT dT)).setCell (i := 1) (.slice BC nC dC))
        clear H0 H1 f0 f1 d0 d1
        generalize World.setCell _ _ _ = wy at H2 ⊢
        simp only [List.setIfInBounds_toArray, List.set_cons_zero, List.set_cons_succ] at H2
        have H1 : Hid (Hs W wy [Blk p (.cells #[.slice AT nT cT, .slice AC nC cC] 30), Blk q (.cells #[.slice BT nT dT, .slice BC nC dC] 30), Ls ETask 42 (.slice AT nT cT) T, Ls EChn 40 (.slice AC nC cC) Cs, Ls ETask 42 (.slice BT nT dT) T, Ls EChn 40 (.slice BC nC dC) Cs, Blk b (.cells #[.slice Aj N cj] 24), Old W]) := Lib.hid ((by refine Hs.conseq (H2.out) fun h s => ?_; refine Sep.pickc (by first | with_reducible exact s | with_reducible exact s.at1 | with_reducible exact s.at2 | with_reducible exact s.at3 | with_reducible exact s.at4 | with_reducible exact s.at5 | with_reducible exact s.at6 | with_reducible exact s.at7) (fun h s => ?_); refine Sep.pickc (by first | with_reducible exact s | with_reducible exact s.at1 | with_reducible exact s.at2 | with_reducible exact s.at3 | with_reducible exact s.at4 | with_reducible exact s.at5 | with_reducible exact s.at6 | with_reducible exact s.at7) (fun h s => ?_); refine Sep.pickc (by first | with_reducible exact s | with_reducible exact s.at1 | with_reducible exact s.at2 | with_reducible exact s.at3 | with_reducible exact s.at4 | with_reducible exact s.at5 | with_reducible exact s.at6 | with_reducible exact s.at7) (fun h s => ?_); refine Sep.pickc (by first | with_reducible exact s | with_reducible exact s.at1 | with_reducible exact s.at2 | with_reducible exact s.at3 | with_reducible exact s.at4 | with_reducible exact s.at5 | with_reducible exact s.at6 | with_reducible exact s.at7) (fun h s => ?_); refine Sep.pickc (by first | with_reducible exact s | with_reducible exact s.at1 | with_reducible exact s.at2 | with_reducible exact s.at3 | with_reducible exact s.at4 | with_reducible exact s.at5 | with_reducible exact s.at6 | with_reducible exact s.at7) (fun h s => ?_); refine Sep.pickc (by first | with_reducible exact s | with_reducible exact s.at1 | with_reducible exact s.at2 | with_reducible exact s.at3 | with_reducible exact s.at4 | with_reducible exact s.at5 | with_reducible exact s.at6 | with_reducible exact s.at7) (fun h s => ?_); refine Sep.pickc (by first | with_reducible exact s | with_reducible exact s.at1 | with_reducible exact s.at2 | with_reducible exact s.at3 | with_reducible exact s.at4 | with_reducible exact s.at5 | with_reducible exact s.at6 | with_reducible exact s.at7) (fun h s => ?_); refine Sep.pickc (by first | with_reducible exact s | with_reducible exact s.at1 | with_reducible exact s.at2 | with_reducible exact s.at3 | with_reducible exact s.at4 | with_reducible exact s.at5 | with_reducible exact s.at6 | with_reducible exact s.at7) (fun h s => ?_); trivial))
        clear H2
        refine hK.out _ _ (Or.inl (by kernel_rfl)) ?_
        clear hK K
        try simp only [Act.put, List.setIfInBounds_toArray, List.set_cons_zero, List.set_cons_succ]
        refine Left.done (by kernel_rfl) ?_ _
        go_wp2_with fail
        go_meet
        case rel => exact ⟨p, q, AT, cT, AC, cC, BT, dT, BC, dC, rfl, rfl, H1⟩
    · skip
      have H2 := Lib.hid (H1.out.alloc (.cells #[.slice none 0 0, .slice none 0 0] 30))
      go_simp
      generalize wy.heap.size = q at H2 ⊢
      generalize World.alloc wy _ = wy at H2 ⊢
      clear H1 hS
      have H1 : Hid (Hs W wy [Blk q (.cells #[.slice none 0 0, .slice none 0 0] 30), Blk b (.cells #[.slice Aj N cj] 24), Old W]) := Lib.hid ((by refine Hs.conseq (H2.out) fun h s => ?_; refine Sep.pickc (by first | with_reducible exact s | with_reducible exact s.at1 | with_reducible exact s.at2 | with_reducible exact s.at3 | with_reducible exact s.at4 | with_reducible exact s.at5 | with_reducible exact s.at6 | with_reducible exact s.at7) (fun h s => ?_); refine Sep.pickc (by first | with_reducible exact s | with_reducible exact s.at1 | with_reducible exact s.at2 | with_reducible exact s.at3 | with_reducible exact s.at4 | with_reducible exact s.at5 | with_reducible exact s.at6 | with_reducible exact s.at7) (fun h s => ?_); refine Sep.pickc (by first | with_reducible exact s | with_reducible exact s.at1 | with_reducible exact s.at2 | with_reducible exact s.at3 | with_reducible exact s.at4 | with_reducible exact s.at5 | with_reducible exact s.at6 | with_reducible exact s.at7) (fun h s => ?_); trivial))
      clear H2
      replace hS : (fun w' : World => w'.cell? ⟨b, 0, none⟩ = some (.slice Aj N cj)) wy := by exact H1.out.at1.cellOf 0 rfl
      refine hK.out _ _ (Or.inr hS) ?_
      clear hK K
      try simp only [Act.put, List.setIfInBounds_toArray, List.set_cons_zero, List.set_cons_succ]
      refine Left.two (i := 1) (j := 4) rfl rfl (by kernel_rfl) (fun K hK => ?_) (fun K hK => ?_)
      · skip
        go_simp
        go_at_call 10
        refine (make10 (.slice Aj N cj) zs wy W _ H1.out (fun w' h => JJ.out w' h.tail.tail) (by rw [hN.out]; omega) (fun z hz => by have := (hok.out.node z hz).few; omega)).mono ?_
        rintro e wy ⟨AT, cT, AC, cC, rfl, H2⟩
        rw [hT.out, hC.out, hnT.out, hnC.out] at H2 ⊢
        clear H1 hS
        have H1 : Hid (Hs W wy [Blk q (.cells #[.slice none 0 0, .slice none 0 0] 30), Ls ETask 42 (.slice AT nT cT) T, Ls EChn 40 (.slice AC nC cC) Cs, Blk b (.cells #[.slice Aj N cj] 24), Old W]) := Lib.hid ((by refine Hs.conseq (H2) fun h s => ?_; refine Sep.pickc (by first | with_reducible exact s | with_reducible exact s.at1 | with_reducible exact s.at2 | with_reducible exact s.at3 | with_reducible exact s.at4 | with_reducible exact s.at5 | with_reducible exact s.at6 | with_reducible exact s.at7) (fun h s => ?_); refine Sep.pickc (by first | with_reducible exact s | with_reducible exact s.at1 | with_reducible exact s.at2 | with_reducible exact s.at3 | with_reducible exact s.at4 | with_reducible exact s.at5 | with_reducible exact s.at6 | with_reducible exact s.at7) (fun h s => ?_); refine Sep.pickc (by first | with_reducible exact s | with_reducible exact s.at1 | with_reducible exact s.at2 | with_reducible exact s.at3 | with_reducible exact s.at4 | with_reducible exact s.at5 | with_reducible exact s.at6 | with_reducible exact s.at7) (fun h s => ?_); refine Sep.pickc (by first | with_reducible exact s | with_reducible exact s.at1 | with_reducible exact s.at2 | with_reducible exact s.at3 | with_reducible exact s.at4 | with_reducible exact s.at5 | with_reducible exact s.at6 | with_reducible exact s.at7) (fun h s => ?_); refine Sep.pickc (by first | with_reducible exact s | with_reducible exact s.at1 | with_reducible exact s.at2 | with_reducible exact s.at3 | with_reducible exact s.at4 | with_reducible exact s.at5 | with_reducible exact s.at6 | with_reducible exact s.at7) (fun h s => ?_); trivial))
        clear H2
        go_simp
        replace hS : (fun w' : World => w'.cell? ⟨b, 0, none⟩ = some (.slice Aj N cj)) wy := by exact H1.out.at3.cellOf 0 rfl
        refine hK.out _ _ (Or.inr hS) ?_
        clear hK K
        try simp only [Act.put, List.setIfInBounds_toArray, List.set_cons_zero, List.set_cons_succ]
        refine Left.two (i := 3) (j := 4) rfl rfl (by kernel_rfl) (fun K hK => ?_) (fun K hK => ?_)
        · skip
          go_simp
          go_at_call 11
          refine (refmake11 (.slice Aj N cj) zs wy W _ H1.out (fun w' h => JJ.out w' h.tail.tail.tail.tail) hok.out).mono ?_
          rintro e wy ⟨BT, dT, BC, dC, rfl, H2⟩
          rw [hT.out, hC.out, hnT.out, hnC.out] at H2 ⊢
          clear H1 hS
          have H1 : Hid (Hs W wy [Blk q (.cells #[.slice none 0 0, .slice none 0 0] 30), Ls ETask 42 (.slice AT nT cT) T, Ls EChn 40 (.slice AC nC cC) Cs, Ls ETask 42 (.slice BT nT dT) T, Ls EChn 40 (.slice BC nC dC) Cs, Blk b (.cells #[.slice Aj N cj] 24), Old W]) := Lib.hid ((by refine Hs.conseq (H2) fun h s => ?_; refine Sep.pickc (by first | with_reducible exact s | with_reducible exact s.at1 | with_reducible exact s.at2 | with_reducible exact s.at3 | with_reducible exact s.at4 | with_reducible exact s.at5 | with_reducible exact s.at6 | with_reducible exact s.at7) (fun h s => ?_); refine Sep.pickc (by first | with_reducible exact s | with_reducible exact s.at1 | with_reducible exact s.at2 | with_reducible exact s.at3 | with_reducible exact s.at4 | with_reducible exact s.at5 | with_reducible exact s.at6 | with_reducible exact s.at7) (fun h s => ?_); refine Sep.pickc (by first | with_reducible exact s | with_reducible exact s.at1 | with_reducible exact s.at2 | with_reducible exact s.at3 | with_reducible exact s.at4 | with_reducible exact s.at5 | with_reducible exact s.at6 | with_reducible exact s.at7) (fun h s => ?_); refine Sep.pickc (by first | with_reducible exact s | with_reducible exact s.at1 | with_reducible exact s.at2 | with_reducible exact s.at3 | with_reducible exact s.at4 | with_reducible exact s.at5 | with_reducible exact s.at6 | with_reducible exact s.at7) (fun h s => ?_); refine Sep.pickc (by first | with_reducible exact s | with_reducible exact s.at1 | with_reducible exact s.at2 | with_reducible exact s.at3 | with_reducible exact s.at4 | with_reducible exact s.at5 | with_reducible exact s.at6 | with_reducible exact s.at7) (fun h s => ?_); refine Sep.pickc (by first | with_reducible exact s | with_reducible exact s.at1 | with_reducible exact s.at2 | with_reducible exact s.at3 | with_reducible exact s.at4 | with_reducible exact s.at5 | with_reducible exact s.at6 | with_reducible exact s.at7) (fun h s => ?_); refine Sep.pickc (by first | with_reducible exact s | with_reducible exact s.at1 | with_reducible exact s.at2 | with_reducible exact s.at3 | with_reducible exact s.at4 | with_reducible exact s.at5 | with_reducible exact s.at6 | with_reducible exact s.at7) (fun h s => ?_); trivial))
          clear H2
          go_simp
          replace hS : (fun w' : World => w'.cell? ⟨b, 0, none⟩ = some (.slice Aj N cj)) wy := by exact H1.out.at5.cellOf 0 rfl
          refine hK.out _ _ (Or.inr hS) ?_
          clear hK K
          try simp only [Act.put, List.setIfInBounds_toArray, List.set_cons_zero, List.set_cons_succ]
          refine Left.run (i := 4) rfl (by kernel_rfl) (fun K hK => ?_)
          have H2 := Lib.hid (H1.out.alloc (.cells #[.slice none 0 0, .slice none 0 0] 30))
          go_simp
          generalize wy.heap.size = p at H2 ⊢
          generalize World.alloc wy _ = wy at H2 ⊢
          clear H1 hS
          have H1 : Hid (Hs W wy [Blk p (.cells #[.slice none 0 0, .slice none 0 0] 30), Blk q (.cells #[.slice none 0 0, .slice none 0 0] 30), Ls ETask 42 (.slice AT nT cT) T, Ls EChn 40 (.slice AC nC cC) Cs, Ls ETask 42 (.slice BT nT dT) T, Ls EChn 40 (.slice BC nC dC) Cs, Blk b (.cells #[.slice Aj N cj] 24), Old W]) := Lib.hid ((by refine Hs.conseq (H2.out) fun h s => ?_; refine Sep.pickc (by first | with_reducible exact s | with_reducible exact s.at1 | with_reducible exact s.at2 | with_reducible exact s.at3 | with_reducible exact s.at4 | with_reducible exact s.at5 | with_reducible exact s.at6 | with_reducible exact s.at7) (fun h s => ?_); refine Sep.pickc (by first | with_reducible exact s | with_reducible exact s.at1 | with_reducible exact s.at2 | with_reducible exact s.at3 | with_reducible exact s.at4 | with_reducible exact s.at5 | with_reducible exact s.at6 | with_reducible exact s.at7) (fun h s => ?_); refine Sep.pickc (by first | with_reducible exact s | with_reducible exact s.at1 | with_reducible exact s.at2 | with_reducible exact s.at3 | with_reducible exact s.at4 | with_reducible exact s.at5 | with_reducible exact s.at6 | with_reducible exact s.at7) (fun h s => ?_); refine Sep.pickc (by first | with_reducible exact s | with_reducible exact s.at1 | with_reducible exact s.at2 | with_reducible exact s.at3 | with_reducible exact s.at4 | with_reducible exact s.at5 | with_reducible exact s.at6 | with_reducible exact s.at7) (fun h s => ?_); refine Sep.pickc (by first | with_reducible exact s | with_reducible exact s.at1 | with_reducible exact s.at2 | with_reducible exact s.at3 | with_reducible exact s.at4 | with_reducible exact s.at5 | with_reducible exact s.at6 | with_reducible exact s.at7) (fun h s => ?_); refine Sep.pickc (by first | with_reducible exact s | with_reducible exact s.at1 | with_reducible exact s.at2 | with_reducible exact s.at3 | with_reducible exact s.at4 | with_reducible exact s.at5 | with_reducible exact s.at6 | with_reducible exact s.at7) (fun h s => ?_); refine Sep.pickc (by first | with_reducible exact s | with_reducible exact s.at1 | with_reducible exact s.at2 | with_reducible exact s.at3 | with_reducible exact s.at4 | with_reducible exact s.at5 | with_reducible exact s.at6 | with_reducible exact s.at7) (fun h s => ?_); refine Sep.pickc (by first | with_reducible exact s | with_reducible exact s.at1 | with_reducible exact s.at2 | with_reducible exact s.at3 | with_reducible exact s.at4 | with_reducible exact s.at5 | with_reducible exact s.at6 | with_reducible exact s.at7) (fun h s => ?_); trivial))
          clear H2
          replace hS : (fun w' : World => w'.cell? ⟨b, 0, none⟩ = some (.slice Aj N cj)) wy := by exact H1.out.at6.cellOf 0 rfl
          refine hK.out _ _ (Or.inr hS) ?_
          clear hK K
          try simp only [Act.put, List.setIfInBounds_toArray, List.set_cons_zero, List.set_cons_succ]
          refine Left.run (i := 6) rfl (by kernel_rfl) (fun K hK => ?_)
          have H0 := Lib.hid H1.out
          have f0 := H0.out.frozenOf 0
          have f1 := H0.out.frozenOf 1
          have d0 := H0.out.cellOf 0 rfl
          have d1 := H0.out.cellOf 1 rfl
          go_simp
          have H2 := Lib.hid ((H0.out.setCell (i := 0) (.slice AT nT cT)).setCell (i := 1) (.slice AC nC cC))
          clear H0 H1 f0 f1 d0 d1 hS
          generalize World.setCell _ _ _ = wy at H2 ⊢
          simp only [List.setIfInBounds_toArray, List.set_cons_zero, List.set_cons_succ] at H2
          have H1 : Hid (Hs W wy [Blk p (.cells #[.slice AT nT cT, .slice AC nC cC] 30), Blk q (.cells #[.slice none 0 0, .slice none 0 0] 30), Ls ETask 42 (.slice AT nT cT) T, Ls EChn 40 (.slice AC nC cC) Cs, Ls ETask 42 (.slice BT nT dT) T, Ls EChn 40 (.slice BC nC dC) Cs, Blk b (.cells #[.slice Aj N cj] 24), Old W]) := Lib.hid ((by refine Hs.conseq (H2.out) fun h s => ?_; refine Sep.pickc (by first | with_reducible exact s | with_reducible exact s.at1 | with_reducible exact s.at2 | with_reducible exact s.at3 | with_reducible exact s.at4 | with_reducible exact s.at5 | with_reducible exact s.at6 | with_reducible exact s.at7) (fun h s => ?_); refine Sep.pickc (by first | with_reducible exact s | with_reducible exact s.at1 | with_reducible exact s.at2 | with_reducible exact s.at3 | with_reducible exact s.at4 | with_reducible exact s.at5 | with_reducible exact s.at6 | with_reducible exact s.at7) (fun h s => ?_); refine Sep.pickc (by first | with_reducible exact s | with_reducible exact s.at1 | with_reducible exact s.at2 | with_reducible exact s.at3 | with_reducible exact s.at4 | with_reducible exact s.at5 | with_reducible exact s.at6 | with_reducible exact s.at7) (fun h s => ?_); refine Sep.pickc (by first | with_reducible exact s | with_reducible exact s.at1 | with_reducible exact s.at2 | with_reducible exact s.at3 | with_reducible exact s.at4 | with_reducible exact s.at5 | with_reducible exact s.at6 | with_reducible exact s.at7) (fun h s => ?_); refine Sep.pickc (by first | with_reducible exact s | with_reducible exact s.at1 | with_reducible exact s.at2 | with_reducible exact s.at3 | with_reducible exact s.at4 | with_reducible exact s.at5 | with_reducible exact s.at6 | with_reducible exact s.at7) (fun h s => ?_); refine Sep.pickc (by first | with_reducible exact s | with_reducible exact s.at1 | with_reducible exact s.at2 | with_reducible exact s.at3 | with_reducible exact s.at4 | with_reducible exact s.at5 | with_reducible exact s.at6 | with_reducible exact s.at7) (fun h s => ?_); refine Sep.pickc (by first | with_reducible exact s | with_reducible exact s.at1 | with_reducible exact s.at2 | with_reducible exact s.at3 | with_reducible exact s.at4 | with_reducible exact s.at5 | with_reducible exact s.at6 | with_reducible exact s.at7) (fun h s => ?_); refine Sep.pickc (by first | with_reducible exact s | with_reducible exact s.at1 | with_reducible exact s.at2 | with_reducible exact s.at3 | with_reducible exact s.at4 | with_reducible exact s.at5 | with_reducible exact s.at6 | with_reducible exact s.at7) (fun h s => ?_); trivial))
          clear H2
          replace hS : (fun w' : World => w'.cell? ⟨b, 0, none⟩ = some (.slice Aj N cj)) wy := by exact H1.out.at6.cellOf 0 rfl
          refine hK.out _ _ (Or.inr hS) ?_
          clear hK K
          try simp only [Act.put, List.setIfInBounds_toArray, List.set_cons_zero, List.set_cons_succ]
          refine Left.run (i := 7) rfl (by kernel_rfl) (fun K hK => ?_)
          have H0 := Lib.hid H1.out.at1
          have f0 := H0.out.frozenOf 0
          have f1 := H0.out.frozenOf 1
          have d0 := H0.out.cellOf 0 rfl
          have d1 := H0.out.cellOf 1 rfl
          go_simp
          have H2 := Lib.hid ((H0.out.setCell (i := 0) (.slice BT nT dT)).setCell (i := 1) (.slice BC nC dC))
          clear H0 H1 f0 f1 d0 d1
          generalize World.setCell _ _ _ = wy at H2 ⊢
          simp only [List.setIfInBounds_toArray, List.set_cons_zero, List.set_cons_succ] at H2
          have H1 : Hid (Hs W wy [Blk p (.cells #[.slice AT nT cT, .slice AC nC cC] 30), Blk q (.cells #[.slice BT nT dT, .slice BC nC dC] 30), Ls ETask 42 (.slice AT nT cT) T, Ls EChn 40 (.slice AC nC cC) Cs, Ls ETask 42 (.slice BT nT dT) T, Ls EChn 40 (.slice BC nC dC) Cs, Blk b (.cells #[.slice Aj N cj] 24), Old W]) := Lib.hid ((by refine Hs.conseq (H2.out) fun h s => ?_; refine Sep.pickc (by first | with_reducible exact s | with_reducible exact s.at1 | with_reducible exact s.at2 | with_reducible exact s.at3 | with_reducible exact s.at4 | with_reducible exact s.at5 | with_reducible exact s.at6 | with_reducible exact s.at7) (fun h s => ?_); refine Sep.pickc (by first | with_reducible exact s | with_reducible exact s.at1 | with_reducible exact s.at2 | with_reducible exact s.at3 | with_reducible exact s.at4 | with_reducible exact s.at5 | with_reducible exact s.at6 | with_reducible exact s.at7) (fun h s => ?_); refine Sep.pickc (by first | with_reducible exact s | with_reducible exact s.at1 | with_reducible exact s.at2 | with_reducible exact s.at3 | with_reducible exact s.at4 | with_reducible exact s.at5 | with_reducible exact s.at6 | with_reducible exact s.at7) (fun h s => ?_); refine Sep.pickc (by first | with_reducible exact s | with_reducible exact s.at1 | with_reducible exact s.at2 | with_reducible exact s.at3 | with_reducible exact s.at4 | with_reducible exact s.at5 | with_reducible exact s.at6 | with_reducible exact s.at7) (fun h s => ?_); refine Sep.pickc (by first | with_reducible exact s | with_reducible exact s.at1 | with_reducible exact s.at2 | with_reducible exact s.at3 | with_reducible exact s.at4 | with_reducible exact s.at5 | with_reducible exact s.at6 | with_reducible exact s.at7) (fun h s => ?_); refine Sep.pickc (by first | with_reducible exact s | with_reducible exact s.at1 | with_reducible exact s.at2 | with_reducible exact s.at3 | with_reducible exact s.at4 | with_reducible exact s.at5 | with_reducible exact s.at6 | with_reducible exact s.at7) (fun h s => ?_); refine Sep.pickc (by first | with_reducible exact s | with_reducible exact s.at1 | with_reducible exact s.at2 | with_reducible exact s.at3 | with_reducible exact s.at4 | with_reducible exact s.at5 | with_reducible exact s.at6 | with_reducible exact s.at7) (fun h s => ?_); refine Sep.pickc (by first | with_reducible exact s | with_reducible exact s.at1 | with_reducible exact s.at2 | with_reducible exact s.at3 | with_reducible exact s.at4 | with_reducible exact s.at5 | with_reducible exact s.at6 | with_reducible exact s.at7) (fun h s => ?_); trivial))
          clear H2
          refine hK.out _ _ (Or.inl (by kernel_rfl)) ?_
          clear hK K
          try simp only [Act.put, List.setIfInBounds_toArray, List.set_cons_zero, List.set_cons_succ]
          refine Left.done (by kernel_rfl) ?_ _
          go_wp2_with fail
          go_meet
          case rel => exact ⟨p, q, AT, cT, AC, cC, BT, dT, BC, dC, rfl, rfl, H1⟩
        · skip
          have H2 := Lib.hid (H1.out.alloc (.cells #[.slice none 0 0, .slice none 0 0] 30))
          go_simp
          generalize wy.heap.size = p at H2 ⊢
          generalize World.alloc wy _ = wy at H2 ⊢
          clear H1 hS
          have H1 : Hid (Hs W wy [Blk p (.cells #[.slice none 0 0, .slice none 0 0] 30), Blk q (.cells #[.slice none 0 0, .slice none 0 0] 30), Ls ETask 42 (.slice AT nT cT) T, Ls EChn 40 (.slice AC nC cC) Cs, Blk b (.cells #[.slice Aj N cj] 24), Old W]) := Lib.hid ((by refine Hs.conseq (H2.out) fun h s => ?_; refine Sep.pickc (by first | with_reducible exact s | with_reducible exact s.at1 | with_reducible exact s.at2 | with_reducible exact s.at3 | with_reducible exact s.at4 | with_reducible exact s.at5 | with_reducible exact s.at6 | with_reducible exact s.at7) (fun h s => ?_); refine Sep.pickc (by first | with_reducible exact s | with_reducible exact s.at1 | with_reducible exact s.at2 | with_reducible exact s.at3 | with_reducible exact s.at4 | with_reducible exact s.at5 | with_reducible exact s.at6 | with_reducible exact s.at7) (fun h s => ?_); refine Sep.pickc (by first | with_reducible exact s | with_reducible exact s.at1 | with_reducible exact s.at2 | with_reducible exact s.at3 | with_reducible exact s.at4 | with_reducible exact s.at5 | with_reducible exact s.at6 | with_reducible exact s.at7) (fun h s => ?_); refine Sep.pickc (by first | with_reducible exact s | with_reducible exact s.at1 | with_reducible exact s.at2 | with_reducible exact s.at3 | with_reducible exact s.at4 | with_reducible exact s.at5 | with_reducible exact s.at6 | with_reducible exact s.at7) (fun h s => ?_); refine Sep.pickc (by first | with_reducible exact s | with_reducible exact s.at1 | with_reducible exact s.at2 | with_reducible exact s.at3 | with_reducible exact s.at4 | with_reducible exact s.at5 | with_reducible exact s.at6 | with_reducible exact s.at7) (fun h s => ?_); refine Sep.pickc (by first | with_reducible exact s | with_reducible exact s.at1 | with_reducible exact s.at2 | with_reducible exact s.at3 | with_reducible exact s.at4 | with_reducible exact s.at5 | with_reducible exact s.at6 | with_reducible exact s.at7) (fun h s => ?_); trivial))
          clear H2
          replace hS : (fun w' : World => w'.cell? ⟨b, 0, none⟩ = some (.slice Aj N cj)) wy := by exact H1.out.at4.cellOf 0 rfl
          refine hK.out _ _ (Or.inr hS) ?_
          clear hK K
          try simp only [Act.put, List.setIfInBounds_toArray, List.set_cons_zero, List.set_cons_succ]
          refine Left.run (i := 3) rfl (by kernel_rfl) (fun K hK => ?_)
          go_simp
          go_at_call 11
          refine (refmake11 (.slice Aj N cj) zs wy W _ H1.out (fun w' h => JJ.out w' h.tail.tail.tail.tail.tail) hok.out).mono ?_
          rintro e wy ⟨BT, dT, BC, dC, rfl, H2⟩
          rw [hT.out, hC.out, hnT.out, hnC.out] at H2 ⊢
          clear H1 hS
          have H1 : Hid (Hs W wy [Blk p (.cells #[.slice none 0 0, .slice none 0 0] 30), Blk q (.cells #[.slice none 0 0, .slice none 0 0] 30), Ls ETask 42 (.slice AT nT cT) T, Ls EChn 40 (.slice AC nC cC) Cs, Ls ETask 42 (.slice BT nT dT) T, Ls EChn 40 (.slice BC nC dC) Cs, Blk b (.cells #[.slice Aj N cj] 24), Old W]) := Lib.hid ((by refine Hs.conseq (H2) fun h s => ?_; refine Sep.pickc (by first | with_reducible exact s | with_reducible exact s.at1 | with_reducible exact s.at2 | with_reducible exact s.at3 | with_reducible exact s.at4 | with_reducible exact s.at5 | with_reducible exact s.at6 | with_reducible exact s.at7) (fun h s => ?_); refine Sep.pickc (by first | with_reducible exact s | with_reducible exact s.at1 | with_reducible exact s.at2 | with_reducible exact s.at3 | with_reducible exact s.at4 | with_reducible exact s.at5 | with_reducible exact s.at6 | with_reducible exact s.at7) (fun h s => ?_); refine Sep.pickc (by first | with_reducible exact s | with_reducible exact s.at1 | with_reducible exact s.at2 | with_reducible exact s.at3 | with_reducible exact s.at4 | with_reducible exact s.at5 | with_reducible exact s.at6 | with_reducible exact s.at7) (fun h s => ?_); refine Sep.pickc (by first | with_reducible exact s | with_reducible exact s.at1 | with_reducible exact s.at2 | with_reducible exact s.at3 | with_reducible exact s.at4 | with_reducible exact s.at5 | with_reducible exact s.at6 | with_reducible exact s.at7) (fun h s => ?_); refine Sep.pickc (by first | with_reducible exact s | with_reducible exact s.at1 | with_reducible exact s.at2 | with_reducible exact s.at3 | with_reducible exact s.at4 | with_reducible exact s.at5 | with_reducible exact s.at6 | with_reducible exact s.at7) (fun h s => ?_); refine Sep.pickc (by first | with_reducible exact s | with_reducible exact s.at1 | with_reducible exact s.at2 | with_reducible exact s.at3 | with_reducible exact s.at4 | with_reducible exact s.at5 | with_reducible exact s.at6 | with_reducible exact s.at7) (fun h s => ?_); refine Sep.pickc (by first | with_reducible exact s | with_reducible exact s.at1 | with_reducible exact s.at2 | with_reducible exact s.at3 | with_reducible exact s.at4 | with_reducible exact s.at5 | with_reducible exact s.at6 | with_reducible exact s.at7) (fun h s => ?_); refine Sep.pickc (by first | with_reducible exact s | with_reducible exact s.at1 | with_reducible exact s.at2 | with_reducible exact s.at3 | with_reducible exact s.at4 | with_reducible exact s.at5 | with_reducible exact s.at6 | with_reducible exact s.at7) (fun h s => ?_); trivial))
          clear H2
          go_simp
          replace hS : (fun w' : World => w'.cell? ⟨b, 0, none⟩ = some (.slice Aj N cj)) wy := by exact H1.out.at6.cellOf 0 rfl
          refine hK.out _ _ (Or.inr hS) ?_
          clear hK K
          try simp only [Act.put, List.setIfInBounds_toArray, List.set_cons_zero, List.set_cons_succ]
          refine Left.run (i := 6) rfl (by kernel_rfl) (fun K hK => ?_)
          have H0 := Lib.hid H1.out
          have f0 := H0.out.frozenOf 0
          have f1 := H0.out.frozenOf 1
          have d0 := H0.out.cellOf 0 rfl
          have d1 := H0.out.cellOf 1 rfl
          go_simp
          have H2 := Lib.hid ((H0.out.setCell (i := 0) (.slice AT nT cT)).setCell (i := 1) (.slice AC nC cC))
          clear H0 H1 f0 f1 d0 d1 hS
          generalize World.setCell _ _ _ = wy at H2 ⊢
          simp only [List.setIfInBounds_toArray, List.set_cons_zero, List.set_cons_succ] at H2
          have H1 : Hid (Hs W wy [Blk p (.cells #[.slice AT nT cT, .slice AC nC cC] 30), Blk q (.cells #[.slice none 0 0, .slice none 0 0] 30), Ls ETask 42 (.slice AT nT cT) T, Ls EChn 40 (.slice AC nC cC) Cs, Ls ETask 42 (.slice BT nT dT) T, Ls EChn 40 (.slice BC nC dC) Cs, Blk b (.cells #[.slice Aj N cj] 24), Old W]) := Lib.hid ((by refine Hs.conseq (H2.out) fun h s => ?_; refine Sep.pickc (by first | with_reducible exact s | with_reducible exact s.at1 | with_reducible exact s.at2 | with_reducible exact s.at3 | with_reducible exact s.at4 | with_reducible exact s.at5 | with_reducible exact s.at6 | with_reducible exact s.at7) (fun h s => ?_); refine Sep.pickc (by first | with_reducible exact s | with_reducible exact s.at1 | with_reducible exact s.at2 | with_reducible exact s.at3 | with_reducible exact s.at4 | with_reducible exact s.at5 | with_reducible exact s.at6 | with_reducible exact s.at7) (fun h s => ?_); refine Sep.pickc (by first | with_reducible exact s | with_reducible exact s.at1 | with_reducible exact s.at2 | with_reducible exact s.at3 | with_reducible exact s.at4 | with_reducible exact s.at5 | with_reducible exact s.at6 | with_reducible exact s.at7) (fun h s => ?_); refine Sep.pickc (by first | with_reducible exact s | with_reducible exact s.at1 | with_reducible exact s.at2 | with_reducible exact s.at3 | with_reducible exact s.at4 | with_reducible exact s.at5 | with_reducible exact s.at6 | with_reducible exact s.at7) (fun h s => ?_); refine Sep.pickc (by first | with_reducible exact s | with_reducible exact s.at1 | with_reducible exact s.at2 | with_reducible exact s.at3 | with_reducible exact s.at4 | with_reducible exact s.at5 | with_reducible exact s.at6 | with_reducible exact s.at7) (fun h s => ?_); refine Sep.pickc (by first | with_reducible exact s | with_reducible exact s.at1 | with_reducible exact s.at2 | with_reducible exact s.at3 | with_reducible exact s.at4 | with_reducible exact s.at5 | with_reducible exact s.at6 | with_reducible exact s.at7) (fun h s => ?_); refine Sep.pickc (by first | with_reducible exact s | with_reducible exact s.at1 | with_reducible exact s.at2 | with_reducible exact s.at3 | with_reducible exact s.at4 | with_reducible exact s.at5 | with_reducible exact s.at6 | with_reducible exact s.at7) (fun h s => ?_); refine Sep.pickc (by first | with_reducible exact s | with_reducible exact s.at1 | with_reducible exact s.at2 | with_reducible exact s.at3 | with_reducible exact s.at4 | with_reducible exact s.at5 | with_reducible exact s.at6 | with_reducible exact s.at7) (fun h s => ?_); trivial))
          clear H2
          replace hS : (fun w' : World => w'.cell? ⟨b, 0, none⟩ = some (.slice Aj N cj)) wy := by exact H1.out.at6.cellOf 0 rfl
          refine hK.out _ _ (Or.inr hS) ?_
          clear hK K
          try simp only [Act.put, List.setIfInBounds_toArray, List.set_cons_zero, List.set_cons_succ]
          refine Left.run (i := 7) rfl (by kernel_rfl) (fun K hK => ?_)
          have H0 := Lib.hid H1.out.at1
          have f0 := H0.out.frozenOf 0
          have f1 := H0.out.frozenOf 1
          have d0 := H0.out.cellOf 0 rfl
          have d1 := H0.out.cellOf 1 rfl
          go_simp
          have H2 := Lib.hid ((H0.out.setCell (i := 0) (.slice BT nT dT)).setCell (i := 1) (.slice BC nC dC))
          clear H0 H1 f0 f1 d0 d1
          generalize World.setCell _ _ _ = wy at H2 ⊢
          simp only [List.setIfInBounds_toArray, List.set_cons_zero, List.set_cons_succ] at H2
          have H1 : Hid (Hs W wy [Blk p (.cells #[.slice AT nT cT, .slice AC nC cC] 30), Blk q (.cells #[.slice BT nT dT, .slice BC nC dC] 30), Ls ETask 42 (.slice AT nT cT) T, Ls EChn 40 (.slice AC nC cC) Cs, Ls ETask 42 (.slice BT nT dT) T, Ls EChn 40 (.slice BC nC dC) Cs, Blk b (.cells #[.slice Aj N cj] 24), Old W]) := Lib.hid ((by refine Hs.conseq (H2.out) fun h s => ?_; refine Sep.pickc (by first | with_reducible exact s | with_reducible exact s.at1 | with_reducible exact s.at2 | with_reducible exact s.at3 | with_reducible exact s.at4 | with_reducible exact s.at5 | with_reducible exact s.at6 | with_reducible exact s.at7) (fun h s => ?_); refine Sep.pickc (by first | with_reducible exact s | with_reducible exact s.at1 | with_reducible exact s.at2 | with_reducible exact s.at3 | with_reducible exact s.at4 | with_reducible exact s.at5 | with_reducible exact s.at6 | with_reducible exact s.at7) (fun h s => ?_); refine Sep.pickc (by first | with_reducible exact s | with_reducible exact s.at1 | with_reducible exact s.at2 | with_reducible exact s.at3 | with_reducible exact s.at4 | with_reducible exact s.at5 | with_reducible exact s.at6 | with_reducible exact s.at7) (fun h s => ?_); refine Sep.pickc (by first | with_reducible exact s | with_reducible exact s.at1 | with_reducible exact s.at2 | with_reducible exact s.at3 | with_reducible exact s.at4 | with_reducible exact s.at5 | with_reducible exact s.at6 | with_reducible exact s.at7) (fun h s => ?_); refine Sep.pickc (by first | with_reducible exact s | with_reducible exact s.at1 | with_reducible exact s.at2 | with_reducible exact s.at3 | with_reducible exact s.at4 | with_reducible exact s.at5 | with_reducible exact s.at6 | with_reducible exact s.at7) (fun h s => ?_); refine Sep.pickc (by first | with_reducible exact s | with_reducible exact s.at1 | with_reducible exact s.at2 | with_reducible exact s.at3 | with_reducible exact s.at4 | with_reducible exact s.at5 | with_reducible exact s.at6 | with_reducible exact s.at7) (fun h s => ?_); refine Sep.pickc (by first | with_reducible exact s | with_reducible exact s.at1 | with_reducible exact s.at2 | with_reducible exact s.at3 | with_reducible exact s.at4 | with_reducible exact s.at5 | with_reducible exact s.at6 | with_reducible exact s.at7) (fun h s => ?_); refine Sep.pickc (by first | with_reducible exact s | with_reducible exact s.at1 | with_reducible exact s.at2 | with_reducible exact s.at3 | with_reducible exact s.at4 | with_reducible exact s.at5 | with_reducible exact s.at6 | with_reducible exact s.at7) (fun h s => ?_); trivial))
          clear H2
          refine hK.out _ _ (Or.inl (by kernel_rfl)) ?_
          clear hK K
          try simp only [Act.put, List.setIfInBounds_toArray, List.set_cons_zero, List.set_cons_succ]
          refine Left.done (by kernel_rfl) ?_ _
          go_wp2_with fail
          go_meet
          case rel => exact ⟨p, q, AT, cT, AC, cC, BT, dT, BC, dC, rfl, rfl, H1⟩
      · skip
        have H2 := Lib.hid (H1.out.alloc (.cells #[.slice none 0 0, .slice none 0 0] 30))
        go_simp
        generalize wy.heap.size = p at H2 ⊢
        generalize World.alloc wy _ = wy at H2 ⊢
        clear H1 hS
        have H1 : Hid (Hs W wy [Blk p (.cells #[.slice none 0 0, .slice none 0 0] 30), Blk q (.cells #[.slice none 0 0, .slice none 0 0] 30), Blk b (.cells #[.slice Aj N cj] 24), Old W]) := Lib.hid ((by refine Hs.conseq (H2.out) fun h s => ?_; refine Sep.pickc (by first | with_reducible exact s | with_reducible exact s.at1 | with_reducible exact s.at2 | with_reducible exact s.at3 | with_reducible exact s.at4 | with_reducible exact s.at5 | with_reducible exact s.at6 | with_reducible exact s.at7) (fun h s => ?_); refine Sep.pickc (by first | with_reducible exact s | with_reducible exact s.at1 | with_reducible exact s.at2 | with_reducible exact s.at3 | with_reducible exact s.at4 | with_reducible exact s.at5 | with_reducible exact s.at6 | with_reducible exact s.at7) (fun h s => ?_); refine Sep.pickc (by first | with_reducible exact s | with_reducible exact s.at1 | with_reducible exact s.at2 | with_reducible exact s.at3 | with_reducible exact s.at4 | with_reducible exact s.at5 | with_reducible exact s.at6 | with_reducible exact s.at7) (fun h s => ?_); refine Sep.pickc (by first | with_reducible exact s | with_reducible exact s.at1 | with_reducible exact s.at2 | with_reducible exact s.at3 | with_reducible exact s.at4 | with_reducible exact s.at5 | with_reducible exact s.at6 | with_reducible exact s.at7) (fun h s => ?_); trivial))
        clear H2
        replace hS : (fun w' : World => w'.cell? ⟨b, 0, none⟩ = some (.slice Aj N cj)) wy := by exact H1.out.at2.cellOf 0 rfl
        refine hK.out _ _ (Or.inr hS) ?_
        clear hK K
        try simp only [Act.put, List.setIfInBounds_toArray, List.set_cons_zero, List.set_cons_succ]
        refine Left.run (i := 1) rfl (by kernel_rfl) (fun K hK => ?_)
        go_simp
        go_at_call 10
        refine (make10 (.slice Aj N cj) zs wy W _ H1.out (fun w' h => JJ.out w' h.tail.tail.tail) (by rw [hN.out]; omega) (fun z hz => by have := (hok.out.node z hz).few; omega)).mono ?_
        rintro e wy ⟨AT, cT, AC, cC, rfl, H2⟩
        rw [hT.out, hC.out, hnT.out, hnC.out] at H2 ⊢
        clear H1 hS
        have H1 : Hid (Hs W wy [Blk p (.cells #[.slice none 0 0, .slice none 0 0] 30), Blk q (.cells #[.slice none 0 0, .slice none 0 0] 30), Ls ETask 42 (.slice AT nT cT) T, Ls EChn 40 (.slice AC nC cC) Cs, Blk b (.cells #[.slice Aj N cj] 24), Old W]) := Lib.hid ((by refine Hs.conseq (H2) fun h s => ?_; refine Sep.pickc (by first | with_reducible exact s | with_reducible exact s.at1 | with_reducible exact s.at2 | with_reducible exact s.at3 | with_reducible exact s.at4 | with_reducible exact s.at5 | with_reducible exact s.at6 | with_reducible exact s.at7) (fun h s => ?_); refine Sep.pickc (by first | with_reducible exact s | with_reducible exact s.at1 | with_reducible exact s.at2 | with_reducible exact s.at3 | with_reducible exact s.at4 | with_reducible exact s.at5 | with_reducible exact s.at6 | with_reducible exact s.at7) (fun h s => ?_); refine Sep.pickc (by first | with_reducible exact s | with_reducible exact s.at1 | with_reducible exact s.at2 | with_reducible exact s.at3 | with_reducible exact s.at4 | with_reducible exact s.at5 | with_reducible exact s.at6 | with_reducible exact s.at7) (fun h s => ?_); refine Sep.pickc (by first | with_reducible exact s | with_reducible exact s.at1 | with_reducible exact s.at2 | with_reducible exact s.at3 | with_reducible exact s.at4 | with_reducible exact s.at5 | with_reducible exact s.at6 | with_reducible exact s.at7) (fun h s => ?_); refine Sep.pickc (by first | with_reducible exact s | with_reducible exact s.at1 | with_reducible exact s.at2 | with_reducible exact s.at3 | with_reducible exact s.at4 | with_reducible exact s.at5 | with_reducible exact s.at6 | with_reducible exact s.at7) (fun h s => ?_); refine Sep.pickc (by first | with_reducible exact s | with_reducible exact s.at1 | with_reducible exact s.at2 | with_reducible exact s.at3 | with_reducible exact s.at4 | with_reducible exact s.at5 | with_reducible exact s.at6 | with_reducible exact s.at7) (fun h s => ?_); trivial))
        clear H2
        go_simp
        replace hS : (fun w' : World => w'.cell? ⟨b, 0, none⟩ = some (.slice Aj N cj)) wy := by exact H1.out.at4.cellOf 0 rfl
        refine hK.out _ _ (Or.inr hS) ?_
        clear hK K
        try simp only [Act.put, List.setIfInBounds_toArray, List.set_cons_zero, List.set_cons_succ]
        refine Left.run (i := 3) rfl (by kernel_rfl) (fun K hK => ?_)
        go_simp
        go_at_call 11
        refine (refmake11 (.slice Aj N cj) zs wy W _ H1.out (fun w' h => JJ.out w' h.tail.tail.tail.tail.tail) hok.out).mono ?_
        rintro e wy ⟨BT, dT, BC, dC, rfl, H2⟩
        rw [hT.out, hC.out, hnT.out, hnC.out] at H2 ⊢
        clear H1 hS
        have H1 : Hid (Hs W wy [Blk p (.cells #[.slice none 0 0, .slice none 0 0] 30), Blk q (.cells #[.slice none 0 0, .slice none 0 0] 30), Ls ETask 42 (.slice AT nT cT) T, Ls EChn 40 (.slice AC nC cC) Cs, Ls ETask 42 (.slice BT nT dT) T, Ls EChn 40 (.slice BC nC dC) Cs, Blk b (.cells #[.slice Aj N cj] 24), Old W]) := Lib.hid ((by refine Hs.conseq (H2) fun h s => ?_; refine Sep.pickc (by first | with_reducible exact s | with_reducible exact s.at1 | with_reducible exact s.at2 | with_reducible exact s.at3 | with_reducible exact s.at4 | with_reducible exact s.at5 | with_reducible exact s.at6 | with_reducible exact s.at7) (fun h s => ?_); refine Sep.pickc (by first | with_reducible exact s | with_reducible exact s.at1 | with_reducible exact s.at2 | with_reducible exact s.at3 | with_reducible exact s.at4 | with_reducible exact s.at5 | with_reducible exact s.at6 | with_reducible exact s.at7) (fun h s => ?_); refine Sep.pickc (by first | with_reducible exact s | with_reducible exact s.at1 | with_reducible exact s.at2 | with_reducible exact s.at3 | with_reducible exact s.at4 | with_reducible exact s.at5 | with_reducible exact s.at6 | with_reducible exact s.at7) (fun h s => ?_); refine Sep.pickc (by first | with_reducible exact s | with_reducible exact s.at1 | with_reducible exact s.at2 | with_reducible exact s.at3 | with_reducible exact s.at4 | with_reducible exact s.at5 | with_reducible exact s.at6 | with_reducible exact s.at7) (fun h s => ?_); refine Sep.pickc (by first | with_reducible exact s | with_reducible exact s.at1 | with_reducible exact s.at2 | with_reducible exact s.at3 | with_reducible exact s.at4 | with_reducible exact s.at5 | with_reducible exact s.at6 | with_reducible exact s.at7) (fun h s => ?_); refine Sep.pickc (by first | with_reducible exact s | with_reducible exact s.at1 | with_reducible exact s.at2 | with_reducible exact s.at3 | with_reducible exact s.at4 | with_reducible exact s.at5 | with_reducible exact s.at6 | with_reducible exact s.at7) (fun h s => ?_); refine Sep.pickc (by first | with_reducible exact s | with_reducible exact s.at1 | with_reducible exact s.at2 | with_reducible exact s.at3 | with_reducible exact s.at4 | with_reducible exact s.at5 | with_reducible exact s.at6 | with_reducible exact s.at7) (fun h s => ?_); refine Sep.pickc (by first | with_reducible exact s | with_reducible exact s.at1 | with_reducible exact s.at2 | with_reducible exact s.at3 | with_reducible exact s.at4 | with_reducible exact s.at5 | with_reducible exact s.at6 | with_reducible exact s.at7) (fun h s => ?_); trivial))
        clear H2
        go_simp
        replace hS : (fun w' : World => w'.cell? ⟨b, 0, none⟩ = some (.slice Aj N cj)) wy := by exact H1.out.at6.cellOf 0 rfl
        refine hK.out _ _ (Or.inr hS) ?_
        clear hK K
        try simp only [Act.put, List.setIfInBounds_toArray, List.set_cons_zero, List.set_cons_succ]
        refine Left.run (i := 6) rfl (by kernel_rfl) (fun K hK => ?_)
        have H0 := Lib.hid H1.out
        have f0 := H0.out.frozenOf 0
        have f1 := H0.out.frozenOf 1
        have d0 := H0.out.cellOf 0 rfl
        have d1 := H0.out.cellOf 1 rfl
        go_simp
        have H2 := Lib.hid ((H0.out.setCell (i := 0) (.slice AT nT cT)).setCell (i := 1) (.slice AC nC cC))
        clear H0 H1 f0 f1 d0 d1 hS
        generalize World.setCell _ _ _ = wy at H2 ⊢
        simp only [List.setIfInBounds_toArray, List.set_cons_zero, List.set_cons_succ] at H2
        have H1 : Hid (Hs W wy [Blk p (.cells #[.slice AT nT cT, .slice AC nC cC] 30), Blk q (.cells #[.slice none 0 0, .slice none 0 0] 30), Ls ETask 42 (.slice AT nT cT) T, Ls EChn 40 (.slice AC nC cC) Cs, Ls ETask 42 (.slice BT nT dT) T, Ls EChn 40 (.slice BC nC dC) Cs, Blk b (.cells #[.slice Aj N cj] 24), Old W]) := Lib.hid ((by refine Hs.conseq (H2.out) fun h s => ?_; refine Sep.pickc (by first | with_reducible exact s | with_reducible exact s.at1 | with_reducible exact s.at2 | with_reducible exact s.at3 | with_reducible exact s.at4 | with_reducible exact s.at5 | with_reducible exact s.at6 | with_reducible exact s.at7) (fun h s => ?_); refine Sep.pickc (by first | with_reducible exact s | with_reducible exact s.at1 | with_reducible exact s.at2 | with_reducible exact s.at3 | with_reducible exact s.at4 | with_reducible exact s.at5 | with_reducible exact s.at6 | with_reducible exact s.at7) (fun h s => ?_); refine Sep.pickc (by first | with_reducible exact s | with_reducible exact s.at1 | with_reducible exact s.at2 | with_reducible exact s.at3 | with_reducible exact s.at4 | with_reducible exact s.at5 | with_reducible exact s.at6 | with_reducible exact s.at7) (fun h s => ?_); refine Sep.pickc (by first | with_reducible exact s | with_reducible exact s.at1 | with_reducible exact s.at2 | with_reducible exact s.at3 | with_reducible exact s.at4 | with_reducible exact s.at5 | with_reducible exact s.at6 | with_reducible exact s.at7) (fun h s => ?_); refine Sep.pickc (by first | with_reducible exact s | with_reducible exact s.at1 | with_reducible exact s.at2 | with_reducible exact s.at3 | with_reducible exact s.at4 | with_reducible exact s.at5 | with_reducible exact s.at6 | with_reducible exact s.at7) (fun h s => ?_); refine Sep.pickc (by first | with_reducible exact s | with_reducible exact s.at1 | with_reducible exact s.at2 | with_reducible exact s.at3 | with_reducible exact s.at4 | with_reducible exact s.at5 | with_reducible exact s.at6 | with_reducible exact s.at7) (fun h s => ?_); refine Sep.pickc (by first | with_reducible exact s | with_reducible exact s.at1 | with_reducible exact s.at2 | with_reducible exact s.at3 | with_reducible exact s.at4 | with_reducible exact s.at5 | with_reducible exact s.at6 | with_reducible exact s.at7) (fun h s => ?_); refine Sep.pickc (by first | with_reducible exact s | with_reducible exact s.at1 | with_reducible exact s.at2 | with_reducible exact s.at3 | with_reducible exact s.at4 | with_reducible exact s.at5 | with_reducible exact s.at6 | with_reducible exact s.at7) (fun h s => ?_); trivial))
        clear H2
        replace hS : (fun w' : World => w'.cell? ⟨b, 0, none⟩ = some (.slice Aj N cj)) wy := by exact H1.out.at6.cellOf 0 rfl
        refine hK.out _ _ (Or.inr hS) ?_
        clear hK K
        try simp only [Act.put, List.setIfInBounds_toArray, List.set_cons_zero, List.set_cons_succ]
        refine Left.run (i := 7) rfl (by kernel_rfl) (fun K hK => ?_)
        have H0 := Lib.hid H1.out.at1
        have f0 := H0.out.frozenOf 0
        have f1 := H0.out.frozenOf 1
        have d0 := H0.out.cellOf 0 rfl
        have d1 := H0.out.cellOf 1 rfl
        go_simp
        have H2 := Lib.hid ((H0.out.setCell (i := 0) (.slice BT nT dT)).setCell (i := 1) (.slice BC nC dC))
        clear H0 H1 f0 f1 d0 d1
        generalize World.setCell _ _ _ = wy at H2 ⊢
        simp only [List.setIfInBounds_toArray, List.set_cons_zero, List.set_cons_succ] at H2
        have H1 : Hid (Hs W wy [Blk p (.cells #[.slice AT nT cT, .slice AC nC cC] 30), Blk q (.cells #[.slice BT nT dT, .slice BC nC dC] 30), Ls ETask 42 (.slice AT nT cT) T, Ls EChn 40 (.slice AC nC cC) Cs, Ls ETask 42 (.slice BT nT dT) T, Ls EChn 40 (.slice BC nC dC) Cs, Blk b (.cells #[.slice Aj N cj] 24), Old W]) := Lib.hid ((by refine Hs.conseq (H2.out) fun h s => ?_; refine Sep.pickc (by first | with_reducible exact s | with_reducible exact s.at1 | with_reducible exact s.at2 | with_reducible exact s.at3 | with_reducible exact s.at4 | with_reducible exact s.at5 | with_reducible exact s.at6 | with_reducible exact s.at7) (fun h s => ?_); refine Sep.pickc (by first | with_reducible exact s | with_reducible exact s.at1 | with_reducible exact s.at2 | with_reducible exact s.at3 | with_reducible exact s.at4 | with_reducible exact s.at5 | with_reducible exact s.at6 | with_reducible exact s.at7) (fun h s => ?_); refine Sep.pickc (by first | with_reducible exact s | with_reducible exact s.at1 | with_reducible exact s.at2 | with_reducible exact s.at3 | with_reducible exact s.at4 | with_reducible exact s.at5 | with_reducible exact s.at6 | with_reducible exact s.at7) (fun h s => ?_); refine Sep.pickc (by first | with_reducible exact s | with_reducible exact s.at1 | with_reducible exact s.at2 | with_reducible exact s.at3 | with_reducible exact s.at4 | with_reducible exact s.at5 | with_reducible exact s.at6 | with_reducible exact s.at7) (fun h s => ?_); refine Sep.pickc (by first | with_reducible exact s | with_reducible exact s.at1 | with_reducible exact s.at2 | with_reducible exact s.at3 | with_reducible exact s.at4 | with_reducible exact s.at5 | with_reducible exact s.at6 | with_reducible exact s.at7) (fun h s => ?_); refine Sep.pickc (by first | with_reducible exact s | with_reducible exact s.at1 | with_reducible exact s.at2 | with_reducible exact s.at3 | with_reducible exact s.at4 | with_reducible exact s.at5 | with_reducible exact s.at6 | with_reducible exact s.at7) (fun h s => ?_); refine Sep.pickc (by first | with_reducible exact s | with_reducible exact s.at1 | with_reducible exact s.at2 | with_reducible exact s.at3 | with_reducible exact s.at4 | with_reducible exact s.at5 | with_reducible exact s.at6 | with_reducible exact s.at7) (fun h s => ?_); refine Sep.pickc (by first | with_reducible exact s | with_reducible exact s.at1 | with_reducible exact s.at2 | with_reducible exact s.at3 | with_reducible exact s.at4 | with_reducible exact s.at5 | with_reducible exact s.at6 | with_reducible exact s.at7) (fun h s => ?_); trivial))
        clear H2
        refine hK.out _ _ (Or.inl (by kernel_rfl)) ?_
        clear hK K
        try simp only [Act.put, List.setIfInBounds_toArray, List.set_cons_zero, List.set_cons_succ]
        refine Left.done (by kernel_rfl) ?_ _
        go_wp2_with fail
        go_meet
        case rel => exact ⟨p, q, AT, cT, AC, cC, BT, dT, BC, dC, rfl, rfl, H1⟩
  case rest =>
    clear H3 b0
    obtain ⟨p, q, AT, cT, AC, cC, BT, dT, BC, dC, rfl, rfl, K⟩ := hcut
    have hT48 : nT ≤ 1000 := by have h1 := tasks_len zs; rw [hT.out, hnT.out, hN.out] at h1; omega
    have p0 : wc.cell? ⟨p, 0, none⟩ = some (.slice AT nT cT) := K.out.cellOf 0 rfl
    have p1 : wc.cell? ⟨p, 1, none⟩ = some (.slice AC nC cC) := K.out.cellOf 1 rfl
    have q0 : wc.cell? ⟨q, 0, none⟩ = some (.slice BT nT dT) := K.out.at1.cellOf 0 rfl
    have q1 : wc.cell? ⟨q, 1, none⟩ = some (.slice BC nC dC) := K.out.at1.cellOf 1 rfl
    go_wp2_with fail
    refine (plan12 AT AC BT BC nT nC cT cC dT dC T Cs wc W _ K.out (fun w' h => h.at2.ls_rd) (fun w' h => h.at3.ls_rd) (fun w' h => h.at4.ls_rd) (fun w' h => h.at5.ls_rd)).mono ?_
    rintro e w4 ⟨rfl, K2⟩
    replace K2 := Lib.hid K2
    clear K p0 p1 q0 q1
    have hC1 : Hid (Cs.length ≤ 1000000) := by show _ ≤ _; rw [← hC.out]; exact chans_le hok.out
    go_wp2_with fail
    go_loopg [5] (nT + 2) (fun g iv wr => ∃ i : Int, (g : Int) + i = (nT : Int) + 1 ∧ -1 ≤ i ∧ iv = .int .i64 i ∧ Hid (Hs W wr [Blk p (.cells #[.slice AT nT cT, .slice AC nC cC] 30), Blk q (.cells #[.slice BT nT dT, .slice BC nC dC] 30), Ls ETask 42 (.slice AT nT cT) T, Ls EChn 40 (.slice AC nC cC) Cs, Ls ETask 42 (.slice BT nT dT) T, Ls EChn 40 (.slice BC nC dC) Cs, Blk b (.cells #[.slice Aj N cj] 24), Old W]))
    case atStart => exact ⟨-1, by omega, by omega, rfl, K2⟩
    case round =>
      clear K2
      obtain ⟨i, hg, hi0, rfl, K⟩ := hrel
      have hi1 : i ≤ (nT : Int) + 1 := by omega
      replace hg := Lib.hid hg
      have q0 : wr.cell? ⟨q, 0, none⟩ = some (.slice BT nT dT) := K.out.at1.cellOf 0 rfl
      by_cases hlt : i ≤ (nT : Int)
      · have hwi : IntKind.i64.wrap (i + 1) = i + 1 := IntWalk.i64_in _ (by omega)
        obtain ⟨F, hF⟩ : ∃ F, fromOf Cs i = F := ⟨_, rfl⟩
        obtain ⟨G, hG⟩ : ∃ F, toOf Cs i = F := ⟨_, rfl⟩
        have SS : Hid (∀ w', Hs W w' [Blk p (.cells #[.slice AT nT cT, .slice AC nC cC] 30), Blk q (.cells #[.slice BT nT dT, .slice BC nC dC] 30), Ls ETask 42 (.slice AT nT cT) T, Ls EChn 40 (.slice AC nC cC) Cs, Ls ETask 42 (.slice BT nT dT) T, Ls EChn 40 (.slice BC nC dC) Cs, Blk b (.cells #[.slice Aj N cj] 24), Old W] → w'.cell? ⟨q, 0, none⟩ = some (.slice BT nT dT) ∧ w'.cell? ⟨q, 1, none⟩ = some (.slice BC nC dC)) := fun w' h => ⟨h.at1.cellOf 0 rfl, h.at1.cellOf 1 rfl⟩
        replace hF := Lib.hid hF
        replace hG := Lib.hid hG
        go_upto_region 11 with (fail)
        clear q0
        have K0 := Lib.hid K.out
        clear K
        go_region_held3 (fun w' => w'.cell? ⟨q, 0, none⟩ = some (.slice BT nT dT) ∧ w'.cell? ⟨q, 1, none⟩ = some (.slice BC nC dC))
          (first | with_reducible exact SS.out _ K0.out.drew | with_reducible exact SS.out _ K1.tail | with_reducible exact SS.out _ K2.tail.tail | with_reducible exact SS.out _ K3.tail.tail | with_reducible exact SS.out _ K4.tail | with_reducible exact SS.out _ K5.tail.tail | with_reducible exact SS.out _ K6.tail.tail)
          (first
            | (go_at_call 14; (with_reducible refine (from14 (.slice BT nT dT) (.slice BC nC dC) Cs i _ W _ K0.out.drew (fun w' h => h.at5.ls_rd) hC1.out).mono ?_); rw [hF.out]; rintro e w5 ⟨A1, c1, rfl, K1⟩)
            | (go_at_call 15; (with_reducible refine (from15 (.slice BT nT dT) (.slice BC nC dC) Cs i _ W _ K1 (fun w' h => h.at6.ls_rd) hC1.out).mono ?_); rw [hF.out]; rintro e w6 ⟨A2, c2, rfl, K2⟩)
            | (go_at_call 13; (with_reducible refine (eqsame13 (.slice A1 F.length c1) (.slice A2 F.length c2) F _ W _ K2 K2.at1.ls_rd K2.ls_rd).mono ?_); rintro e w7 ⟨rfl, K3⟩)
            | (go_at_call 16; (with_reducible refine (to16 (.slice BT nT dT) (.slice BC nC dC) Cs i _ W _ K3.tail.tail (fun w' h => h.at5.ls_rd) hC1.out).mono ?_); rw [hG.out]; rintro e w8 ⟨A4, c4, rfl, K4⟩)
            | (go_at_call 17; (with_reducible refine (to17 (.slice BT nT dT) (.slice BC nC dC) Cs i _ W _ K4 (fun w' h => h.at6.ls_rd) hC1.out).mono ?_); rw [hG.out]; rintro e w9 ⟨A5, c5, rfl, K5⟩)
            | (go_at_call 13; (with_reducible refine (eqsame13 (.slice A4 G.length c4) (.slice A5 G.length c5) G _ W _ K5 K5.at1.ls_rd K5.ls_rd).mono ?_); rintro e wa ⟨rfl, K6⟩))
        replace K6 := Lib.hid K6.tail.tail
        clear SS K0 K1 K2 K3 K4 K5
        go_wp2_with fail
        go_roundg ((nT : Int) - i).toNat
        case measure => have := hg.out; omega
        case rel => exact ⟨i + 1, by have := hg.out; omega, by omega, rfl, K6⟩
      · have hi2 : decide (i ≤ (nT : Int)) = false := by rw [decide_eq_false_iff_not]; omega
        have b0 : wr.cell? ⟨b, 0, none⟩ = some (.slice Aj N cj) := K.out.at6.cellOf 0 rfl
        clear hlt hi0 hi1 hg
        go_wp2_with fail
        clear q0 b0 hi2
        go_loopg [6] (N + 2) (fun g iv wr => ∃ i : Int, (g : Int) + i = (N : Int) + 1 ∧ -1 ≤ i ∧ iv = .int .i64 i ∧ Hid (Hs W wr [Blk p (.cells #[.slice AT nT cT, .slice AC nC cC] 30), Blk q (.cells #[.slice BT nT dT, .slice BC nC dC] 30), Ls ETask 42 (.slice AT nT cT) T, Ls EChn 40 (.slice AC nC cC) Cs, Ls ETask 42 (.slice BT nT dT) T, Ls EChn 40 (.slice BC nC dC) Cs, Blk b (.cells #[.slice Aj N cj] 24), Old W]))
        case atStart => exact ⟨-1, by omega, by omega, rfl, K⟩
        case round =>
          clear K
          obtain ⟨i, hg, hi0, rfl, K⟩ := hrel
          have hi1 : i ≤ (N : Int) + 1 := by omega
          replace hg := Lib.hid hg
          have b0 : wr.cell? ⟨b, 0, none⟩ = some (.slice Aj N cj) := K.out.at6.cellOf 0 rfl
          by_cases hlt : i ≤ (N : Int)
          · have hwi : IntKind.i64.wrap (i + 1) = i + 1 := IntWalk.i64_in _ (by omega)
            obtain ⟨κ, hκ⟩ : ∃ κ, keyed zs i = κ := ⟨_, rfl⟩
            have hne : (κ != κ) = false := by cases κ <;> rfl
            have SS : Hid (∀ w', Hs W w' [Blk p (.cells #[.slice AT nT cT, .slice AC nC cC] 30), Blk q (.cells #[.slice BT nT dT, .slice BC nC dC] 30), Ls ETask 42 (.slice AT nT cT) T, Ls EChn 40 (.slice AC nC cC) Cs, Ls ETask 42 (.slice BT nT dT) T, Ls EChn 40 (.slice BC nC dC) Cs, Blk b (.cells #[.slice Aj N cj] 24), Old W] → w'.cell? ⟨b, 0, none⟩ = some (.slice Aj N cj)) := fun w' h => h.at6.cellOf 0 rfl
            replace hκ := Lib.hid hκ
            go_upto_region 16 with (fail)
            clear b0
            have K0 := Lib.hid K.out
            clear K
            go_region_held3 (fun w' => w'.cell? ⟨b, 0, none⟩ = some (.slice Aj N cj))
              (first | with_reducible exact SS.out _ K0.out.drew | with_reducible exact SS.out _ K1 | with_reducible exact SS.out _ K2)
              (first
                | (go_at_call 18; (with_reducible refine (keyed18 (.slice Aj N cj) zs _ W _ K0.out.drew (JJ.out _ K0.out.drew.tail.tail.tail.tail.tail.tail.tail) i).mono ?_); rw [hκ.out]; rintro e w5 ⟨rfl, K1⟩)
                | (go_at_call 19; (with_reducible refine (keyed19 (.slice Aj N cj) zs _ W _ K1 (JJ.out _ K1.tail.tail.tail.tail.tail.tail.tail) i).mono ?_); rw [hκ.out]; rintro e w6 ⟨rfl, K2⟩))
            replace K2 := Lib.hid K2
            clear SS K0 K1
            go_wp2_with fail
            go_roundg ((N : Int) - i).toNat
            case measure => have := hg.out; omega
            case rel => exact ⟨i + 1, by have := hg.out; omega, by omega, rfl, K2⟩
          · have hi2 : decide (i ≤ (N : Int)) = false := by rw [decide_eq_false_iff_not]; omega
            clear hlt hi0 hi1 hg
            go_wp2_with fail
            go_ret
            exact ⟨rfl, K.out.tail.tail.tail.tail.tail.tail.tail.under_old⟩
theorem planmake_walk2 (jv : Value) (zs : List Nd) (W : World) (hx : JobX W jv zs) : Calls Try.prog 3 #[.agg #[jv]] W fun e w' => e = .returned (.bool true) ∧ Below W.heap.size W w' := planmake_walk jv zs W hx
end Go.Proofs.Ytbifajiigpalhaa

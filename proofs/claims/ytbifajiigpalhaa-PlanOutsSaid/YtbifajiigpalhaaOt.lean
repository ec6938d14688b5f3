import Derived.Test.YtbifajiigpalhaaFd
import Derived.Test.YtbifajiigpalhaaMw
import Derived.IntWalk
import Derived.Laws.MakeOwn
import Derived.Test.YtbifajiigpalhaaProg
import Derived.Test.YtbifajiigpalhaaLs
import Derived.Outline
import Derived.StillTailTactics
import Derived.Deep.DeepCutAuto
import Derived.Deep.CutBlock
import Derived.Deep.LoopGhost
import Derived.Deep.QuietTactic
import Derived.BigQuiet
import Derived.Deep.RegionHeld3
import Derived.Deep.RegionLaw
set_option linter.unusedVariables false
set_option linter.unusedSimpArgs false
namespace Go.Proofs.Ytbifajiigpalhaa
open Go.RowKit
theorem sub_mem {α β : Type} (f : α → List β) {l : List α} {x : α} (hx : x ∈ l) : (f x).Sublist (l.flatMap f) := by
  obtain ⟨a, b, rfl⟩ := List.append_of_mem hx
  rw [List.flatMap_append, List.flatMap_cons]
  exact (List.sublist_append_left _ _).trans (List.sublist_append_right _ _)
theorem chosen_filter {α : Type} (p : α → Bool) (l : List α) : chosen p l = (l.zipIdx.filter fun x => p x.1).map fun x => (x.2 : Int) := by
  unfold chosen
  generalize l.zipIdx = zs
  induction zs with
  | nil => rfl
  | cons x r ih =>
    rw [List.flatMap_cons, ih, List.filter_cons]
    split <;> simp
theorem countP_chosen (Cs : List (Int × Int × Int)) (p g : Int × Int × Int → Bool) : (chosen p Cs).countP (fun d => g (chnAt Cs d)) = Cs.countP (fun x => p x && g x) := by
  rw [chosen_filter, List.countP_map, List.countP_filter]
  have h1 : ∀ x ∈ Cs.zipIdx, (((fun d => g (chnAt Cs d)) ∘ fun x : (Int × Int × Int) × Nat => (x.2 : Int)) x && p x.1) = ((fun y => p y && g y) ∘ Prod.fst) x := fun x hx => by
    have h2 := List.mem_zipIdx_iff_getElem?.1 hx
    show (g (chnAt Cs (x.2 : Int)) && p x.1) = (p x.1 && g x.1)
    unfold chnAt
    rw [Int.toNat_natCast, h2, Bool.and_comm]
  rw [List.countP_congr (fun x hx => by rw [h1 x hx]), ← List.countP_map, List.zipIdx_map_fst]
theorem task_is {zs : List Nd} {k i : Nat} {q : Int} {z : Nd} (h : (tasks zs)[k]? = some ((i : Int), q)) (hz : zs[i]? = some z) : ∃ b, b < tcount z ∧ q = (b : Int) ∧ k = fst0 zs i + b := by
  have h1 : (k : Int) ∈ chosen (fun x : Int × Int => x.1 == (i : Int)) (tasks zs) := (mem_chosen _ _ _).2 ⟨k, _, h, by simp, rfl⟩
  rw [chosen_tasks hz, List.mem_map] at h1
  obtain ⟨b, hb, he⟩ := h1
  rw [List.mem_range] at hb
  have he2 : k = fst0 zs i + b := by omega
  have h2 := tasks_at hz hb
  rw [← he2, h] at h2
  exact ⟨b, hb, by simpa using h2, he2⟩
theorem count_ge {zs : List Nd} (hok : JobOk zs) {i m a : Nat} {z y : Nd} (hz : zs[i]? = some z) (hy : zs[m]? = some y) (ha : z.2[a]? = some (m : Int)) (hk : keyed zs (i : Int) = true) {u : Nat} (hu : u < tcount y) (Q : Int × Int × Int → Bool)
    (hQ : ∀ v, v < tcount z → Q (((fst0 zs m + u : Nat) : Int), ((fst0 zs i + v : Nat) : Int), (a : Int)) = true) : tcount z ≤ (chans zs).countP Q := by
  have s1 : (rch2 (keyed zs i || y.par != z.par) (fst0 zs m) (fst0 zs i) a (tcount z) u).Sublist (chn3 zs (tasks zs) i z ((m : Int), a)) := by
    rw [chn3_ref hok hz hy]
    exact sub_mem (rch2 (keyed zs i || y.par != z.par) (fst0 zs m) (fst0 zs i) a (tcount z)) (List.mem_range.2 hu)
  have s2 : (chn3 zs (tasks zs) i z ((m : Int), a)).Sublist (chn4 zs (tasks zs) (z, i)) := sub_mem (chn3 zs (tasks zs) i z) (List.mem_zipIdx_iff_getElem?.2 ha)
  have s3 : (chn4 zs (tasks zs) (z, i)).Sublist (chans zs) := sub_mem (chn4 zs (tasks zs)) (List.mem_zipIdx_iff_getElem?.2 hz)
  have s4 := ((s1.trans s2).trans s3).countP_le (p := Q)
  rw [hk] at s4
  have e : rch2 (true || y.par != z.par) (fst0 zs m) (fst0 zs i) a (tcount z) u = (List.range (tcount z)).map fun v => (((fst0 zs m + u : Nat) : Int), ((fst0 zs i + v : Nat) : Int), (a : Int)) := by
    unfold rch2
    have : rch1 (true || y.par != z.par) (fst0 zs m) (fst0 zs i) a u = fun v => [(((fst0 zs m + u : Nat) : Int), ((fst0 zs i + v : Nat) : Int), (a : Int))] := by
      funext v
      unfold rch1
      simp
    rw [this]
    generalize tcount z = n
    induction List.range n with
    | nil => rfl
    | cons x r ih => rw [List.flatMap_cons, ih]; rfl
  rw [e, List.countP_eq_length.2 (fun x hx => by
    rw [List.mem_map] at hx
    obtain ⟨v, hv, rfl⟩ := hx
    exact hQ v (List.mem_range.1 hv)), List.length_map, List.length_range] at s4
  exact s4
theorem part_one (g : Int) : partG g 1 = 0 := by
  unfold partG
  by_cases h : partB g 1 = true
  · rw [if_pos h]
  · rw [if_neg h]
    unfold partB at h
    simp at h
    omega
/-- Where a record of a key goes from a task. -/
theorem outs_home {zs : List Nd} (hok : JobOk zs) {t key k : Int} (hk : k ∈ outsOf zs (tasks zs) (chans zs) t key) :
    ∃ (n f tt i a : Nat) (z : Nd) (q : Int), k = (n : Int) ∧ (chans zs)[n]? = some ((f : Int), (tt : Int), (a : Int)) ∧ (f : Int) = t ∧ (tasks zs)[tt]? = some ((i : Int), q) ∧ zs[i]? = some z ∧ (keyed zs (i : Int) = true → tt = fst0 zs i + (partG (group key) z.par).toNat) := by
  unfold outsOf at hk
  rw [List.mem_flatMap] at hk
  obtain ⟨c, hc, hk⟩ := hk
  unfold out1 at hk
  split at hk
  case isFalse => cases hk
  case isTrue hyes =>
  rw [List.mem_singleton] at hk
  subst hk
  obtain ⟨n, x, hx, hp, rfl⟩ := (mem_chosen _ _ _).1 hc
  obtain ⟨f, tt, i, a, m, z, p, q, rfl, hf, hto, hz, ha, hm⟩ := chans_in (List.mem_of_getElem? hx)
  have hft : (f : Int) = t := by simpa using hp
  refine ⟨n, f, tt, i, a, z, q, rfl, hx, hft, hto, hz, fun hkey => ?_⟩
  obtain ⟨b, hb, rfl, rfl⟩ := task_is hto hz
  have hy := List.getElem?_eq_getElem hm
  obtain ⟨u, hu, rfl, rfl⟩ := task_is hf hy
  have hat : chnAt (chans zs) (n : Int) = (((fst0 zs m + u : Nat) : Int), ((fst0 zs i + b : Nat) : Int), (a : Int)) := by unfold chnAt; rw [Int.toNat_natCast, hx]
  have hpar := tcount_par (hok.node z (List.mem_of_getElem? hz))
  rw [Bool.or_eq_true] at hyes
  rcases hyes with h1 | h1
  · have hcnt : ((fromOf (chans zs) t).countP (sameP (tasks zs) (chans zs) (chnAt (chans zs) (n : Int)))) = (chans zs).countP (fun x => x.1 == t && (nodeOf (tasks zs) x.2.1 == (i : Int) && x.2.2 == (a : Int))) := by
      rw [hat]
      have := countP_chosen (chans zs) (fun x => x.1 == t) (fun x => nodeOf (tasks zs) x.2.1 == (i : Int) && x.2.2 == (a : Int))
      rw [← this]
      unfold fromOf
      congr 1
      funext d
      unfold sameP
      rw [nodeOf_at hto]
    have hge := count_ge hok hz hy ha hkey hu (fun x => x.1 == t && (nodeOf (tasks zs) x.2.1 == (i : Int) && x.2.2 == (a : Int))) (fun v hv => by
      rw [nodeOf_at (tasks_at hz hv)]
      simp [← hft])
    rw [← hcnt] at hge
    have h2 : (fromOf (chans zs) t).countP (sameP (tasks zs) (chans zs) (chnAt (chans zs) (n : Int))) = 1 := by
      have := eq_of_beq h1
      omega
    have hb0 : b = 0 := by omega
    have hp1 : z.par = 1 := by omega
    subst hb0
    rw [hp1, part_one]
    rfl
  · unfold homeP at h1
    rw [hat] at h1
    have h2 := eq_of_beq h1
    dsimp only at h2
    rw [nodeOf_at hto, parOf_at hz, partOf_at hto] at h2
    dsimp only at h2
    rw [h2]
    simp
/-- Each node's task of a key, or none yet. -/
def Homes (zs : List Nd) (key : Int) (D : List Int) : Prop := ∀ (x : Nat) (v : Int), D[x]? = some v → v = -1 ∨ ∀ z, zs[x]? = some z → v = ((fst0 zs x + (partG (group key) z.par).toNat : Nat) : Int)
theorem Homes.step {zs : List Nd} {key : Int} {D : List Int} (h : Homes zs key D) {i : Nat} {z : Nd} (hz : zs[i]? = some z) {v : Int} (hv : v = ((fst0 zs i + (partG (group key) z.par).toNat : Nat) : Int)) : Homes zs key (D.set i v) := by
  intro x u hx
  rw [List.getElem?_set] at hx
  by_cases e : i = x
  · subst e
    rw [if_pos rfl] at hx
    split at hx
    · cases hx
      exact .inr fun y hy => by rw [hz] at hy; cases hy; exact hv
    · cases hx
  · rw [if_neg e] at hx
    exact h x u hx
set_option maxRecDepth 100000 in
set_option maxHeartbeats 4000000 in
theorem planouts_walk (jv : Value) (zs : List Nd) (Ak : Option Addr) (nK cK : Nat) (keys : List Int) (W : World) (hx : JobX W jv zs) (hk : RdL (Enc.num .i64) W (.slice Ak nK cK) keys) (hkw : ∀ x ∈ keys, (Lit.int .i64 x).wf = true) :
    Calls Try.prog 4 #[.agg #[jv], .slice Ak nK cK] W fun e w' => e = .returned (.bool true) ∧ Below W.heap.size W w' := by
  obtain ⟨hnK, hcK⟩ := hk.caps
  obtain ⟨Aj, cj, hv⟩ := hx.job.form
  subst hv
  have hcj := hx.job.1.caps.2
  obtain ⟨N, hN⟩ : ∃ N, zs.length = N := ⟨_, rfl⟩
  have JJ : Hid (∀ w', Hs W w' [Old W] → JobR w' (.slice Aj N cj) zs) := fun w' h => by
    have := hx.job
    rw [hN] at this
    exact this.step ((Kept.refl W).hs h)
  have F9 := Lib.hid (fun w hk => fit9 (.slice Aj zs.length cj) zs hx w hk)
  have H := Lib.hid ((Hs.start W).alloc (.cells #[.slice Aj zs.length cj] 24))
  rw [hN] at hcj F9 H ⊢
  replace hN := Lib.hid hN
  clear hx hkw
  replace hnK := Lib.hid hnK
  replace hk := Lib.hid hk
  go_enter Try.func4, Try.ntmps4
  go_upto_region 1 with (fail)
  generalize World.alloc W _ = w1 at H ⊢
  generalize W.heap.size = b at H ⊢
  go_wp2_with fail
  refine (known8 w1 W _ H.out).mono ?_
  rintro e w2 ⟨rfl, H2⟩
  have b0 : w2.cell? ⟨b, 0, none⟩ = some (.slice Aj N cj) := H2.cellOf 0 rfl
  replace H2 := Lib.hid H2
  clear H
  go_wp2_with fail
  refine (F9.out w2 ((Kept.refl W).hs H2.out.tail)).mono ?_
  rintro e w3 ⟨r, rfl, hr, hb⟩
  have H3 := Lib.hid (H2.out.below hb)
  replace hr := Lib.hid hr
  clear hb H2 b0 F9
  cases r with
  | false =>
    go_wp2_with fail
    go_ret
    exact ⟨rfl, H3.out.tail.under_old⟩
  | true =>
  have hok : Hid (JobOk zs) := hr.out rfl
  clear hr
  have b0 : w3.cell? ⟨b, 0, none⟩ = some (.slice Aj N cj) := H3.out.cellOf 0 rfl
  have hN12 : N ≤ 12 := by have := hok.out.few; have := hN.out; omega
  by_cases hK40 : nK ≤ 40
  case neg =>
    have hk1 : decide ((40 : Int) < (nK : Int)) = true := by rw [decide_eq_true_eq]; omega
    have hk2 : decide (40 < nK) = true := by rw [decide_eq_true_eq]; omega
    go_wp2_with fail
    go_ret
    exact ⟨rfl, H3.out.tail.under_old⟩
  case pos =>
  have hk1 : decide ((40 : Int) < (nK : Int)) = false := by rw [decide_eq_false_iff_not]; omega
  have hk2 : decide (40 < nK) = false := by rw [decide_eq_false_iff_not]; omega
  go_wp2_with fail
  refine (refmake11 (.slice Aj N cj) zs w3 W _ H3.out (fun w' h => JJ.out w' h.tail) hok.out).mono ?_
  rintro e w4 ⟨AT, cT, AC, cC, rfl, K⟩
  have hTl := tasks_len zs
  have hCl := chans_le hok.out
  have hpo : Hid (PlanOk zs (tasks zs) (chans zs)) := ⟨fun c hc => by
    obtain ⟨f, tt, i, a, m, z, p, q, rfl, hf, htt, _⟩ := chans_in hc
    have := (List.getElem?_eq_some_iff.1 htt).1
    exact ⟨by show (0 : Int) ≤ (tt : Int); omega, by show (tt : Int) < _; omega⟩, fun x hx => by
    obtain ⟨i, z, a, hz, _, rfl⟩ := tasks_mem hx
    have := (List.getElem?_eq_some_iff.1 hz).1
    unfold isN
    simp only [Bool.and_eq_true, decide_eq_true_eq]
    omega⟩
  have hhome : Hid (∀ (t key k : Int), k ∈ outsOf zs (tasks zs) (chans zs) t key → ∃ (n f tt i a : Nat) (z : Nd) (q : Int), k = (n : Int) ∧ (chans zs)[n]? = some ((f : Int), (tt : Int), (a : Int)) ∧ (f : Int) = t ∧ (tasks zs)[tt]? = some ((i : Int), q) ∧ zs[i]? = some z ∧ (keyed zs (i : Int) = true → tt = fst0 zs i + (partG (group key) z.par).toNat)) :=
    fun t key k h => outs_home hok.out h
  obtain ⟨T, hT⟩ : ∃ T, tasks zs = T := ⟨_, rfl⟩
  obtain ⟨Cs, hC⟩ : ∃ T, chans zs = T := ⟨_, rfl⟩
  rw [hT, hC] at K hpo hhome
  rw [hT] at hTl
  rw [hC] at hCl
  rw [hT, hC]
  replace hT := Lib.hid hT
  replace hC := Lib.hid hC
  obtain ⟨nT, hnT⟩ : ∃ n, T.length = n := ⟨_, rfl⟩
  obtain ⟨nC, hnC⟩ : ∃ n, Cs.length = n := ⟨_, rfl⟩
  rw [hnT, hnC] at K
  rw [hnT] at hTl
  rw [hnC] at hCl
  rw [hnT, hnC]
  have hcT := K.ls_rd.caps.2
  have hcC := K.at1.ls_rd.caps.2
  replace hnT := Lib.hid hnT
  replace hnC := Lib.hid hnC
  have K2 := Lib.hid (K.alloc (.cells #[.slice AT nT cT, .slice AC nC cC] 30))
  have hnT1 : nT ≤ 48 := by have := hN.out; omega
  clear K H3 b0 hk1 hk2 hTl
  obtain ⟨gj, oj, rfl⟩ := (JJ.out _ K2.out.tail.tail.tail.tail).1.some_ (by rw [List.length_map]; exact hok.out.pos)
  go_upto_region 6 with (fail)
  generalize World.alloc w4 _ = w5 at K2 ⊢
  generalize w4.heap.size = p at K2 ⊢
  go_wp2_with fail
  go_loopg [6] nK (fun g iv wr => ∃ i : Nat, g + i = nK ∧ iv = .int .i64 i ∧ Hid (Hs W wr (Blk p (.cells #[.slice AT nT cT, .slice AC nC cC] 30) :: Ls ETask 42 (.slice AT nT cT) T :: Ls EChn 40 (.slice AC nC cC) Cs :: Blk b (.cells #[.slice (some ⟨gj, oj, none⟩) N cj] 24) :: [Old W])))
  case atStart => exact ⟨0, by omega, rfl, K2⟩
  case round =>
    clear K2
    obtain ⟨i, hg, rfl, K⟩ := hrel
    have hiK : i ≤ nK := by omega
    replace hg := Lib.hid hg
    rcases Nat.lt_or_ge i nK with hlt | hlt
    · have hi0 : (0 : Int) ≤ (i : Int) := by omega
      have hi1 : (i : Int) < (nK : Int) := by omega
      have hwi : IntKind.i64.wrap ((i : Int) + 1) = ((i + 1 : Nat) : Int) := by rw [IntWalk.i64_in _ (by omega)]; omega
      obtain ⟨key, hkey⟩ : ∃ c, keys[i]? = some c := ⟨_, List.getElem?_eq_getElem (by have := hnK.out; omega)⟩
      obtain ⟨gy, oy, rfl⟩ := hk.out.some_ (by have := hnK.out; omega)
      replace hkey := Lib.hid hkey
      have hmk : ∀ w, (Instr.makeSlice 34 (.int .i64 (N : Int)) (.int .i64 (N : Int))).run Try.prog w = .ok (.slice (some ⟨w.heap.size, 0, none⟩) N N) (w.alloc (.cells (madeCells #[.int .i64 0] N) 3)) := run_make_row' (P := Try.prog) 34 3 (.int .i64 0) 8 Try.underlying34 infoI rfl .i64 .i64 N (by omega) (by omega)
      have b0 : wr.cell? ⟨b, 0, none⟩ = some (.slice (some ⟨gj, oj, none⟩) N cj) := K.out.at3.cellOf 0 rfl
      have K3 := Lib.hid (K.out.ls_made (E := Enc.num .i64) 3 0 (.int .i64 0) rfl N (by omega))
      go_wp2_with fail
      clear hmk b0 K
      generalize World.alloc wr _ = w6 at K3 ⊢
      generalize wr.heap.size = gh at K3 ⊢
      go_loopg [8] N (fun g kv wr => ∃ (k : Nat) (D : List Int), g + k = N ∧ kv = .int .i64 k ∧ Hid (D.length = N) ∧ Hid (∀ x, x < k → D[x]? = some (-1)) ∧ Hid (Hs W wr (Ls (Enc.num .i64) 3 (.slice (some ⟨gh, 0, none⟩) N N) D :: Blk p (.cells #[.slice AT nT cT, .slice AC nC cC] 30) :: Ls ETask 42 (.slice AT nT cT) T :: Ls EChn 40 (.slice AC nC cC) Cs :: Blk b (.cells #[.slice (some ⟨gj, oj, none⟩) N cj] 24) :: [Old W])))
      case atStart => exact ⟨0, _, rfl, rfl, Lib.hid List.length_replicate, Lib.hid (fun x hx => by omega), K3⟩
      case round =>
        clear K3
        obtain ⟨k, D, hg2, rfl, hDl, hDk, K⟩ := hrel
        have hkN : k ≤ N := by omega
        replace hg2 := Lib.hid hg2
        rcases Nat.lt_or_ge k N with hlt2 | hlt2
        · have hk0 : (0 : Int) ≤ (k : Int) := by omega
          have hk1 : (k : Int) < (N : Int) := by omega
          have hwk : IntKind.i64.wrap ((k : Int) + 1) = ((k + 1 : Nat) : Int) := by rw [IntWalk.i64_in _ (by omega)]; omega
          have f0 := K.out.ls_frozen k
          obtain ⟨u, hu⟩ : ∃ u, D[k]? = some u := ⟨_, List.getElem?_eq_getElem (by rw [hDl.out]; exact hlt2)⟩
          have d0 : wr.cell? ⟨gh, k, none⟩ = some (.int .i64 u) := by have := K.out.ls_rd.cell hu 0 rfl; simpa [Enc.num] using this
          have K4 := Lib.hid (K.out.ls_set0 rfl k hlt2 (-1) (.int .i64 (-1)) rfl)
          have hD2 : Hid ((D.set k (-1)).length = N) := by show _ = _; rw [List.length_set]; exact hDl.out
          have hD3 : Hid (∀ x, x < k + 1 → (D.set k (-1))[x]? = some (-1)) := fun x hx => by
            rw [List.getElem?_set]
            by_cases e : k = x
            · rw [if_pos e, if_pos (by rw [hDl.out]; omega)]
            · rw [if_neg e]; exact hDk.out x (by omega)
          clear hu K hDk
          go_wp2_with fail
          go_roundg (N - (k + 1))
          case measure => have := hg2.out; omega
          case rel => exact ⟨k + 1, D.set k (-1), by have := hg2.out; omega, by go_num, hD2, hD3, K4⟩
        · have hk1 : decide ((k : Int) < (N : Int)) = false := by rw [decide_eq_false_iff_not]; omega
          have hk2 : decide (k < N) = false := by rw [decide_eq_false_iff_not]; omega
          have hHm : Hid (Homes zs key D) := fun x v hx => .inl (by
            have h1 := (List.getElem?_eq_some_iff.1 hx).1
            rw [hDl.out] at h1
            have h2 := hDk.out x (by omega)
            rw [hx] at h2
            exact Option.some.inj h2)
          clear hDk hlt2 hg2
          go_wp2_with fail
          clear hk1 hk2
          go_loopg [9] nT (fun g tv wr => ∃ (t : Nat) (D : List Int), g + t = nT ∧ tv = .int .i64 t ∧ Hid (D.length = N) ∧ Hid (Homes zs key D) ∧ Hid (Hs W wr (Ls (Enc.num .i64) 3 (.slice (some ⟨gh, 0, none⟩) N N) D :: Blk p (.cells #[.slice AT nT cT, .slice AC nC cC] 30) :: Ls ETask 42 (.slice AT nT cT) T :: Ls EChn 40 (.slice AC nC cC) Cs :: Blk b (.cells #[.slice (some ⟨gj, oj, none⟩) N cj] 24) :: [Old W])))
          case atStart => exact ⟨0, D, rfl, rfl, hDl, hHm, K⟩
          case round =>
            clear K hDl hHm
            clear D
            obtain ⟨t, D, hgt, rfl, hDl, hHm, K⟩ := hrel
            have htT : t ≤ nT := by omega
            replace hgt := Lib.hid hgt
            have p0 : wr.cell? ⟨p, 0, none⟩ = some (.slice AT nT cT) := K.out.at1.cellOf 0 rfl
            rcases Nat.lt_or_ge t nT with hlt2 | hlt2
            · have ht0 : (0 : Int) ≤ (t : Int) := by omega
              have ht1 : (t : Int) < (nT : Int) := by omega
              have hwt : IntKind.i64.wrap ((t : Int) + 1) = ((t + 1 : Nat) : Int) := by rw [IntWalk.i64_in _ (by omega)]; omega
              have hCl2 : Hid (Cs.length ≤ 1000000) := by show _ ≤ _; rw [hnC.out]; exact hCl
              obtain ⟨O, hO⟩ : ∃ O, outsOf zs T Cs (t : Int) key = O := ⟨_, rfl⟩
              obtain ⟨nO, hnO⟩ : ∃ n, O.length = n := ⟨_, rfl⟩
              have hOl : nO ≤ 1000000 := by
                have h1 := chosen_len (fun x : Int × Int × Int => x.1 == (t : Int)) Cs
                have h2 := flatMap_len (out1 zs T Cs key (fromOf Cs t)) (fromOf Cs t) 1 (fun x _ => by unfold out1; split <;> simp)
                have h3 : ((fromOf Cs t).flatMap (out1 zs T Cs key (fromOf Cs t))).length = nO := by rw [← hnO, ← hO]; rfl
                have h4 : (fromOf Cs (t : Int)).length ≤ Cs.length := h1
                have := hnC.out
                omega
              have SS : Hid (∀ w', Hs W w' (Ls (Enc.num .i64) 3 (.slice (some ⟨gh, 0, none⟩) N N) D :: Blk p (.cells #[.slice AT nT cT, .slice AC nC cC] 30) :: Ls ETask 42 (.slice AT nT cT) T :: Ls EChn 40 (.slice AC nC cC) Cs :: Blk b (.cells #[.slice (some ⟨gj, oj, none⟩) N cj] 24) :: [Old W]) → w'.cell? ⟨b, 0, none⟩ = some (.slice (some ⟨gj, oj, none⟩) N cj) ∧ w'.cell? ⟨p, 0, none⟩ = some (.slice AT nT cT) ∧ w'.cell? ⟨p, 1, none⟩ = some (.slice AC nC cC) ∧ w'.cell? ⟨gy, oy + i, none⟩ = some (.int .i64 key)) :=
                fun w' h => ⟨h.at4.cellOf 0 rfl, h.at1.cellOf 0 rfl, h.at1.cellOf 1 rfl, by have := (hk.out.old h.at5).cell hkey.out 0 rfl; simpa [Enc.num] using this⟩
              replace hO := Lib.hid hO
              replace hnO := Lib.hid hnO
              go_upto_region 17 with (fail)
              clear p0
              have K0 := Lib.hid K.out
              clear K
              go_region_held3 (fun w' => w'.cell? ⟨b, 0, none⟩ = some (.slice (some ⟨gj, oj, none⟩) N cj) ∧ w'.cell? ⟨p, 0, none⟩ = some (.slice AT nT cT) ∧ w'.cell? ⟨p, 1, none⟩ = some (.slice AC nC cC) ∧ w'.cell? ⟨gy, oy + i, none⟩ = some (.int .i64 key))
                (first | with_reducible exact SS.out _ K0.out.drew | with_reducible exact SS.out _ K1.tail)
                (first
                  | (go_at_call 20; (with_reducible refine (outs20 (.slice (some ⟨gj, oj, none⟩) N cj) (.slice AT nT cT) (.slice AC nC cC) zs T Cs (t : Int) key _ W _ K0.out.drew (fun w' h => JJ.out w' h.tail.tail.tail.tail.tail) (fun w' h => h.at2.ls_rd) (fun w' h => h.at3.ls_rd) hpo.out hCl2.out).mono ?_); rw [hO.out, hnO.out]; rintro e w7 ⟨Ao, cO, rfl, K1⟩))
              replace K1 := Lib.hid K1
              clear K0
              go_upto_region 18 with (fail)
              go_region_held3 (fun w' => w'.cell? ⟨b, 0, none⟩ = some (.slice (some ⟨gj, oj, none⟩) N cj) ∧ w'.cell? ⟨p, 0, none⟩ = some (.slice AT nT cT) ∧ w'.cell? ⟨p, 1, none⟩ = some (.slice AC nC cC) ∧ w'.cell? ⟨gy, oy + i, none⟩ = some (.int .i64 key))
                (first | with_reducible exact SS.out _ K1.out.drew.tail | with_reducible exact SS.out _ K2.tail.tail | with_reducible exact SS.out _ K3.tail.tail)
                (first
                  | (go_at_call 21; (with_reducible refine (outs21 (.slice (some ⟨gj, oj, none⟩) N cj) (.slice AT nT cT) (.slice AC nC cC) zs T Cs (t : Int) key _ W _ K1.out.drew (fun w' h => JJ.out w' h.tail.tail.tail.tail.tail.tail) (fun w' h => h.at3.ls_rd) (fun w' h => h.at4.ls_rd) hpo.out hCl2.out).mono ?_); rw [hO.out, hnO.out]; rintro e w8 ⟨Ap, cp, rfl, K2⟩)
                  | (go_at_call 13; (with_reducible refine (eqsame13 (.slice Ao nO cO) (.slice Ap nO cp) O _ W _ K2 K2.at1.ls_rd K2.ls_rd).mono ?_); rintro e w9 ⟨rfl, K3⟩))
              replace K3 := Lib.hid K3.tail
              have hcO := K3.out.ls_rd.caps.2
              clear K1 K2 SS
              go_wp2_with fail
              go_loopg [11] nO (fun g kv wr => ∃ (k : Nat) (D : List Int), g + k = nO ∧ kv = .int .i64 k ∧ Hid (D.length = N) ∧ Hid (Homes zs key D) ∧ Hid (Hs W wr (Ls (Enc.num .i64) 3 (.slice Ao nO cO) O :: Ls (Enc.num .i64) 3 (.slice (some ⟨gh, 0, none⟩) N N) D :: Blk p (.cells #[.slice AT nT cT, .slice AC nC cC] 30) :: Ls ETask 42 (.slice AT nT cT) T :: Ls EChn 40 (.slice AC nC cC) Cs :: Blk b (.cells #[.slice (some ⟨gj, oj, none⟩) N cj] 24) :: [Old W])))
              case atStart => exact ⟨0, D, rfl, rfl, hDl, hHm, K3⟩
              case round =>
                clear K3 hDl hHm
                clear D
                obtain ⟨k, D, hgk, rfl, hDl, hHm, K⟩ := hrel
                have hkO : k ≤ nO := by omega
                replace hgk := Lib.hid hgk
                rcases Nat.lt_or_ge k nO with hlt3 | hlt3
                · skip
                  have hk0 : (0 : Int) ≤ (k : Int) := by omega
                  have hk1 : (k : Int) < (nO : Int) := by omega
                  have hwk : IntKind.i64.wrap ((k : Int) + 1) = ((k + 1 : Nat) : Int) := by rw [IntWalk.i64_in _ (by omega)]; omega
                  obtain ⟨x, hx⟩ : ∃ x, O[k]? = some x := ⟨_, List.getElem?_eq_getElem (by have := hnO.out; omega)⟩
                  obtain ⟨n, f, tt, i2, a, z, q, rfl, hcn, hft, htt, hz, hh⟩ := hhome.out t key x (by rw [hO.out]; exact List.mem_of_getElem? hx)
                  obtain rfl : t = f := by omega
                  have hn1 := (List.getElem?_eq_some_iff.1 hcn).1
                  rw [hnC.out] at hn1
                  have htt1 := (List.getElem?_eq_some_iff.1 htt).1
                  rw [hnT.out] at htt1
                  have hi2 := (List.getElem?_eq_some_iff.1 hz).1
                  rw [hN.out] at hi2
                  obtain ⟨gq, oq, rfl⟩ := K.out.ls_rd.some_ (by have := hnO.out; omega)
                  obtain ⟨gt, ot, rfl⟩ := K.out.at3.ls_rd.some_ (by have := hnT.out; omega)
                  obtain ⟨gc, oc, rfl⟩ := K.out.at4.ls_rd.some_ (by have := hnC.out; omega)
                  have hn0 : (0 : Int) ≤ (n : Int) := by omega
                  have hn2 : (n : Int) < (nC : Int) := by omega
                  have htt0 : (0 : Int) ≤ (tt : Int) := by omega
                  have htt2 : (tt : Int) < (nT : Int) := by omega
                  have hi20 : (0 : Int) ≤ (i2 : Int) := by omega
                  have hi21 : (i2 : Int) < (N : Int) := by omega
                  replace hx := Lib.hid hx
                  replace hcn := Lib.hid hcn
                  replace htt := Lib.hid htt
                  replace hz := Lib.hid hz
                  have hh2 := Lib.hid hh
                  clear hh hft
                  have KQ := Lib.hid K.out
                  have SS : Hid (∀ w', Hs W w' (Ls (Enc.num .i64) 3 (.slice (some ⟨gq, oq, none⟩) nO cO) O :: Ls (Enc.num .i64) 3 (.slice (some ⟨gh, 0, none⟩) N N) D :: Blk p (.cells #[.slice (some ⟨gt, ot, none⟩) nT cT, .slice (some ⟨gc, oc, none⟩) nC cC] 30) :: Ls ETask 42 (.slice (some ⟨gt, ot, none⟩) nT cT) T :: Ls EChn 40 (.slice (some ⟨gc, oc, none⟩) nC cC) Cs :: Blk b (.cells #[.slice (some ⟨gj, oj, none⟩) N cj] 24) :: [Old W]) → w'.cell? ⟨p, 1, none⟩ = some (.slice (some ⟨gc, oc, none⟩) nC cC) ∧ w'.cell? ⟨gq, oq + k, none⟩ = some (.int .i64 n) ∧ w'.cell? ⟨gc, oc + n * 3, none⟩ = some (.int .i64 t) ∧ w'.cell? ⟨gc, oc + n * 3 + 1, none⟩ = some (.int .i64 tt) ∧ w'.cell? ⟨gc, oc + n * 3 + 2, none⟩ = some (.int .i64 a)) := fun w' h => ⟨h.at2.cellOf 1 rfl, by have := h.ls_rd.cell hx.out 0 rfl; simpa [Enc.num] using this, h.at4.ls_rd.cell hcn.out 0 rfl, h.at4.ls_rd.cell hcn.out 1 rfl, h.at4.ls_rd.cell hcn.out 2 rfl⟩
                  go_upto_region 23 with (fail)
                  clear K
                  refine wp_region_left (S := fun w' : World => w'.cell? ⟨p, 1, none⟩ = some (.slice (some ⟨gc, oc, none⟩) nC cC) ∧ w'.cell? ⟨gq, oq + k, none⟩ = some (.int .i64 n) ∧ w'.cell? ⟨gc, oc + n * 3, none⟩ = some (.int .i64 t) ∧ w'.cell? ⟨gc, oc + n * 3 + 1, none⟩ = some (.int .i64 tt) ∧ w'.cell? ⟨gc, oc + n * 3 + 2, none⟩ = some (.int .i64 a)) 9 mixed ?_
                  have hS : (fun w' : World => w'.cell? ⟨p, 1, none⟩ = some (.slice (some ⟨gc, oc, none⟩) nC cC) ∧ w'.cell? ⟨gq, oq + k, none⟩ = some (.int .i64 n) ∧ w'.cell? ⟨gc, oc + n * 3, none⟩ = some (.int .i64 t) ∧ w'.cell? ⟨gc, oc + n * 3 + 1, none⟩ = some (.int .i64 tt) ∧ w'.cell? ⟨gc, oc + n * 3 + 2, none⟩ = some (.int .i64 a)) wr.drew := by exact SS.out _ KQ.out.drew
                  refine Left.pure (i := 0) (v := ?v23_0) rfl (by kernel_rfl) (fun _ _ _ h => h) (Or.inr hS) (Or.inl ⟨by kernel_rfl, fun w _ => ?hy23_0⟩) ?rest23_0
                  case hy23_0 => (go_simp; try with_reducible rfl)
                  try simp only [Act.put, List.setIfInBounds_toArray, List.set_cons_zero, List.set_cons_succ]
                  refine Left.take (i := 1) (v := ?v23_1) rfl (by kernel_rfl) (fun _ _ _ h => h) hS (Or.inl ⟨by kernel_rfl, fun w hSw => ?hy23_1⟩) ?rest23_1
                  case hy23_1 => ((try dsimp only at hSw); go_simp; try with_reducible rfl)
                  try simp only [Act.put, List.setIfInBounds_toArray, List.set_cons_zero, List.set_cons_succ]
                  refine Left.pure (i := 2) (v := ?v23_2) rfl (by kernel_rfl) (fun _ _ _ h => h) (Or.inr hS) (Or.inl ⟨by kernel_rfl, fun w _ => ?hy23_2⟩) ?rest23_2
                  case hy23_2 => (go_simp; try with_reducible rfl)
                  try simp only [Act.put, List.setIfInBounds_toArray, List.set_cons_zero, List.set_cons_succ]
                  refine Left.pure (i := 3) (v := ?v23_3) rfl (by kernel_rfl) (fun _ _ _ h => h) (Or.inr hS) (Or.inl ⟨by kernel_rfl, fun w _ => ?hy23_3⟩) ?rest23_3
                  case hy23_3 => (go_simp; try with_reducible rfl)
                  try simp only [Act.put, List.setIfInBounds_toArray, List.set_cons_zero, List.set_cons_succ]
                  refine Left.pure (i := 4) (v := ?v23_4) rfl (by kernel_rfl) (fun _ _ _ h => h) (Or.inr hS) (Or.inl ⟨by kernel_rfl, fun w _ => ?hy23_4⟩) ?rest23_4
                  case hy23_4 => (go_simp; try with_reducible rfl)
                  try simp only [Act.put, List.setIfInBounds_toArray, List.set_cons_zero, List.set_cons_succ]
                  refine Left.take (i := 5) (v := ?v23_5) rfl (by kernel_rfl) (fun _ _ _ h => h) hS (Or.inl ⟨by kernel_rfl, fun w hSw => ?hy23_5⟩) ?rest23_5
                  case hy23_5 => ((try dsimp only at hSw); go_simp; try with_reducible rfl)
                  try simp only [Act.put, List.setIfInBounds_toArray, List.set_cons_zero, List.set_cons_succ]
                  refine Left.pure (i := 6) (v := ?v23_6) rfl (by kernel_rfl) (fun _ _ _ h => h) (Or.inr hS) (Or.inl ⟨by kernel_rfl, fun w _ => ?hy23_6⟩) ?rest23_6
                  case hy23_6 => (go_simp; try with_reducible rfl)
                  try simp only [Act.put, List.setIfInBounds_toArray, List.set_cons_zero, List.set_cons_succ]
                  refine Left.take (i := 7) (v := ?v23_7) rfl (by kernel_rfl) (fun _ _ _ h => h) hS (Or.inl ⟨by kernel_rfl, fun w hSw => ?hy23_7⟩) ?rest23_7
                  case hy23_7 => ((try dsimp only at hSw); go_simp; try with_reducible rfl)
                  try simp only [Act.put, List.setIfInBounds_toArray, List.set_cons_zero, List.set_cons_succ]
                  refine Left.run (i := 8) rfl (by kernel_rfl) (fun K hK => ?_)
                  have K2 := KQ.out.drew.alloc (.cells #[.int .i64 0, .int .i64 0, .int .i64 0] 40)
                  go_simp
                  replace hS : (fun w' : World => w'.cell? ⟨p, 1, none⟩ = some (.slice (some ⟨gc, oc, none⟩) nC cC) ∧ w'.cell? ⟨gq, oq + k, none⟩ = some (.int .i64 n) ∧ w'.cell? ⟨gc, oc + n * 3, none⟩ = some (.int .i64 t) ∧ w'.cell? ⟨gc, oc + n * 3 + 1, none⟩ = some (.int .i64 tt) ∧ w'.cell? ⟨gc, oc + n * 3 + 2, none⟩ = some (.int .i64 a)) (wr.drew.alloc (.cells #[.int .i64 0, .int .i64 0, .int .i64 0] 40)) := by exact SS.out _ (KQ.out.drew.alloc_ _)
                  refine hK.out _ _ (Or.inr hS) ?_
                  clear hK K
                  try simp only [Act.put, List.setIfInBounds_toArray, List.set_cons_zero, List.set_cons_succ]
                  refine Left.run (i := 9) rfl (by kernel_rfl) (fun K hK => ?_)
                  have f0 := K2.frozenOf 0
                  have f1 := K2.frozenOf 1
                  have f2 := K2.frozenOf 2
                  have d0 := K2.cellOf 0 rfl
                  have d1 := K2.cellOf 1 rfl
                  have d2 := K2.cellOf 2 rfl
                  go_simp
                  refine hK.out _ _ (Or.inl (by kernel_rfl)) ?_
                  clear hK K
                  try simp only [Act.put, List.setIfInBounds_toArray, List.set_cons_zero, List.set_cons_succ]
                  refine Left.done (by kernel_rfl) ?_ _
                  have L := Lib.hid ((KQ.out.alloc (.cells #[.int .i64 t, .int .i64 tt, .int .i64 a] 40)).drew)
                  clear f0 d0 f1 d1 f2 d2 K2 SS KQ
                  go_upto_region 24 with (fail)
                  generalize World.drew _ = w6 at L ⊢
                  generalize wr.heap.size = bx at L ⊢
                  have x1 : w6.cell? ⟨bx, 1, none⟩ = some (.int .i64 tt) := L.out.cellOf 1 rfl
                  have p0 : w6.cell? ⟨p, 0, none⟩ = some (.slice (some ⟨gt, ot, none⟩) nT cT) := L.out.at3.cellOf 0 rfl
                  have t0 : w6.cell? ⟨gt, ot + tt * 2, none⟩ = some (.int .i64 i2) := L.out.at4.ls_rd.cell htt.out 0 rfl
                  have t1 : w6.cell? ⟨gt, ot + tt * 2 + 1, none⟩ = some (.int .i64 q) := L.out.at4.ls_rd.cell htt.out 1 rfl
                  go_upto_region 25 with (fail)
                  have L2 := Lib.hid (L.out.alloc (.cells #[.int .i64 i2, .int .i64 q] 42))
                  clear x1 p0 t0 t1 L
                  generalize World.alloc w6 _ = w7 at L2 ⊢
                  generalize w6.heap.size = bt at L2 ⊢
                  have x0 : w7.cell? ⟨bx, 0, none⟩ = some (.int .i64 t) := L2.out.at1.cellOf 0 rfl
                  have y0 : w7.cell? ⟨bt, 0, none⟩ = some (.int .i64 i2) := L2.out.cellOf 0 rfl
                  have b0 : w7.cell? ⟨b, 0, none⟩ = some (.slice (some ⟨gj, oj, none⟩) N cj) := L2.out.at7.cellOf 0 rfl
                  have hne : ((t : Int) != (t : Int)) = false := by simp
                  obtain ⟨κ, hκ⟩ : ∃ κ, keyed zs (i2 : Int) = κ := ⟨_, rfl⟩
                  rw [hκ] at hh2
                  replace hκ := Lib.hid hκ
                  go_wp2_with fail
                  refine (keyed19 (.slice (some ⟨gj, oj, none⟩) N cj) zs w7 W _ L2.out (JJ.out _ L2.out.tail.tail.tail.tail.tail.tail.tail.tail) (i2 : Int)).mono ?_
                  rw [hκ.out]
                  rintro e w8 ⟨rfl, L3⟩
                  replace L3 := Lib.hid L3
                  clear x0 y0 b0 hne L2
                  cases κ with
                  | false =>
                    go_wp2_with fail
                    go_roundg (nO - (k + 1))
                    case measure => have := hgk.out; omega
                    case rel => exact ⟨k + 1, D, by have := hgk.out; omega, by go_num, hDl, hHm, Lib.hid L3.out.tail.tail⟩
                  | true =>
                    have htg : Hid (tt = fst0 zs i2 + (partG (group key) z.par).toNat) := hh2.out rfl
                    obtain ⟨v, hv⟩ : ∃ u, D[i2]? = some u := ⟨_, List.getElem?_eq_getElem (by rw [hDl.out]; exact hi2)⟩
                    have hvv : v = -1 ∨ v = (tt : Int) := by
                      rcases hHm.out i2 v hv with h | h
                      · exact .inl h
                      · exact .inr (by rw [h z hz.out, ← htg.out])
                    have y0 : w8.cell? ⟨bt, 0, none⟩ = some (.int .i64 i2) := L3.out.cellOf 0 rfl
                    have x1 : w8.cell? ⟨bx, 1, none⟩ = some (.int .i64 tt) := L3.out.at1.cellOf 1 rfl
                    have d0 : w8.cell? ⟨gh, i2, none⟩ = some (.int .i64 v) := by have := L3.out.at3.ls_rd.cell hv 0 rfl; simpa [Enc.num] using this
                    clear hv hh2
                    have hD2 : Hid ((D.set i2 (tt : Int)).length = N) := by show _ = _; rw [List.length_set]; exact hDl.out
                    have hH2 : Hid (Homes zs key (D.set i2 (tt : Int))) := hHm.out.step hz.out (by rw [htg.out])
                    have hq0 : decide ((0 : Int) ≤ (tt : Int)) = true := decide_eq_true htt0
                    have hq1 : ((tt : Int) != (tt : Int)) = false := by simp
                    have hf2 : Hid (∀ n, (w8.drewN n).frozen? ⟨gh, i2, none⟩ = false) := fun n => (L3.out.drewN n).at3.ls_frozen i2
                    go_upto_region 28 with (fail)
                    rcases hvv with rfl | rfl
                    · go_quiet (fail)
                      have K4 := Lib.hid ((L3.out.drewN nq).at3.ls_set0 rfl i2 hi2 (tt : Int) (.int .i64 tt) rfl)
                      have f0 := hf2.out nq
                      clear hf2
                      go_wp2_with fail
                      go_roundg (nO - (k + 1))
                      case measure => have := hgk.out; omega
                      case rel => exact ⟨k + 1, D.set i2 (tt : Int), by have := hgk.out; omega, by go_num, hD2, hH2, Lib.hid K4.out.at1.tail.at1.tail.at1⟩
                    · go_quiet (fail)
                      have K4 := Lib.hid ((L3.out.drewN nq).at3.ls_set0 rfl i2 hi2 (tt : Int) (.int .i64 tt) rfl)
                      have f0 := hf2.out nq
                      clear hf2
                      go_wp2_with fail
                      go_roundg (nO - (k + 1))
                      case measure => have := hgk.out; omega
                      case rel => exact ⟨k + 1, D.set i2 (tt : Int), by have := hgk.out; omega, by go_num, hD2, hH2, Lib.hid K4.out.at1.tail.at1.tail.at1⟩
                · have hk1 : decide ((k : Int) < (nO : Int)) = false := by rw [decide_eq_false_iff_not]; omega
                  have hk2 : decide (k < nO) = false := by rw [decide_eq_false_iff_not]; omega
                  clear hlt3
                  go_wp2_with fail
                  go_roundg (nT - (t + 1))
                  case measure => have := hgt.out; omega
                  case rel => exact ⟨t + 1, D, by have := hgt.out; omega, by go_num, hDl, hHm, Lib.hid K.out.tail⟩
            · have ht1 : decide ((t : Int) < (nT : Int)) = false := by rw [decide_eq_false_iff_not]; omega
              have ht2 : decide (t < nT) = false := by rw [decide_eq_false_iff_not]; omega
              clear hlt2
              go_wp2_with fail
              go_roundg (nK - (i + 1))
              case measure => have := hg.out; omega
              case rel => exact ⟨i + 1, by have := hg.out; omega, by go_num, Lib.hid K.out.tail⟩
    · have hi1 : decide ((i : Int) < (nK : Int)) = false := by rw [decide_eq_false_iff_not]; omega
      have hi2 : decide (i < nK) = false := by rw [decide_eq_false_iff_not]; omega
      clear hlt
      go_wp2_with fail
      go_ret
      exact ⟨rfl, K.out.tail.tail.tail.tail.under_old⟩
end Go.Proofs.Ytbifajiigpalhaa

import Derived.Test.YtlaicngliopjoaaNl
import Derived.Test.YtlaicngliopjoaaSt
import Derived.Test.YtlaicngliopjoaaProg
import Derived.Test.YtlaicngliopjoaaLs
import Derived.Outline
import Derived.StillTailTactics
import Derived.Deep.DeepCutAuto
import Derived.Deep.CutBlock
import Derived.Deep.LoopGhost
import Derived.Deep.QuietTactic
import Derived.BigQuiet
import Derived.Deep.RegionHeld3
import Derived.Deep.RegionLaw
set_option linter.unusedVariables false
set_option linter.unusedSimpArgs false
namespace Go.Proofs.Ytlaicngliopjoaa
open Go.RowKit
/-! ### What is heard: lists alone -/
def initL (j : Nat) : List (Int × Int) := (List.range j).map fun x : Nat => ((x : Int) % 3, (x : Int))
theorem initL_succ (j : Nat) : initL (j + 1) = initL j ++ [((j : Int) % 3, (j : Int))] := by simp [initL, List.range_succ]
theorem initL_length (j : Nat) : (initL j).length = j := by simp [initL]
structure Heard (m L i dbl : Nat) (xs : List (Int × Int)) (hs : List Int) : Prop where
  len : hs.length = m
  few : xs.length ≤ m
  steps : i ≤ L + (m - xs.length)
  dbls : dbl ≤ i
  form : ∀ q ∈ xs, ∃ x : Nat, x < m ∧ q = ((x : Int) % 3, (x : Int))
  each : ∀ h ∈ hs, 0 ≤ h ∧ h ≤ i
  sum : hs.sum + xs.length = m + dbl
  all : ∀ x : Nat, x < m → (((x : Int) % 3, (x : Int)) ∈ xs) ∨ ∃ h, hs[x]? = some h ∧ 1 ≤ h
theorem sum_replicate0 (n : Nat) : (List.replicate n (0 : Int)).sum = 0 := by induction n with | zero => rfl | succ n ih => simp [List.replicate_succ]
theorem Heard.start (m L : Nat) : Heard m L 0 0 (initL m) (List.replicate m 0) where
  len := by simp
  few := by rw [initL_length]; exact Nat.le_refl _
  steps := Nat.zero_le _
  dbls := Nat.le_refl _
  form := fun q hq => by
    simp only [initL, List.mem_map, List.mem_range] at hq
    obtain ⟨x, hx, rfl⟩ := hq
    exact ⟨x, hx, rfl⟩
  each := fun h hh => by rw [List.eq_of_mem_replicate hh]; omega
  sum := by rw [sum_replicate0, initL_length]; omega
  all := fun x hx => .inl (by simp only [initL, List.mem_map, List.mem_range]; exact ⟨x, hx, rfl⟩)
theorem sum_set (l : List Int) (x : Nat) (h v : Int) (hx : l[x]? = some h) : (l.set x v).sum = l.sum - h + v := by
  induction l generalizing x with
  | nil => simp at hx
  | cons a l ih =>
    cases x with
    | zero => simp at hx; subst hx; simp; omega
    | succ x => simp at hx; simp [ih x hx]; omega
theorem mem_eraseIdx_of {α : Type} (l : List α) (k : Nat) (m q : α) (hk : l[k]? = some m) (hq : q ∈ l) : q = m ∨ q ∈ l.eraseIdx k := by
  induction l generalizing k with
  | nil => cases hq
  | cons a l ih =>
    cases k with
    | zero =>
      simp at hk; subst hk
      rcases List.mem_cons.1 hq with h | h
      · exact .inl h
      · exact .inr (by simpa using h)
    | succ k =>
      simp at hk
      rcases List.mem_cons.1 hq with h | h
      · exact .inr (by simp [h])
      · rcases ih k hk h with h | h
        · exact .inl h
        · exact .inr (by simp [h])
theorem Heard.hs_some {m L i dbl : Nat} {xs : List (Int × Int)} {hs : List Int} (H : Heard m L i dbl xs hs) {x : Nat} (hx : x < m) : ∃ h, hs[x]? = some h ∧ 0 ≤ h ∧ h ≤ i := by
  have hl : x < hs.length := by rw [H.len]; exact hx
  exact ⟨hs[x], List.getElem?_eq_getElem hl, H.each _ (List.getElem_mem hl)⟩
theorem Heard.doubled {m L i dbl : Nat} {xs : List (Int × Int)} {hs : List Int} (H : Heard m L i dbl xs hs) (hi : i < L) {x : Nat} {h : Int} (hh : hs[x]? = some h) : Heard m L (i + 1) (dbl + 1) xs (hs.set x (h + 1)) where
  len := by rw [List.length_set]; exact H.len
  few := H.few
  steps := by omega
  dbls := by have := H.dbls; omega
  form := H.form
  each := fun g hg => by
    have h0 := H.each h (List.mem_of_getElem? hh)
    rcases List.mem_or_eq_of_mem_set hg with h1 | h1
    · have := H.each g h1; omega
    · omega
  sum := by rw [sum_set hs x h (h + 1) hh]; have := H.sum; omega
  all := fun y hy => by
    rcases H.all y hy with h1 | ⟨g, h1, h2⟩
    · exact .inl h1
    · right
      by_cases e : x = y
      · subst e
        rw [h1] at hh; injection hh with hh; subst hh
        exact ⟨g + 1, by rw [List.getElem?_set_self (List.getElem?_eq_some_iff.1 h1).1], by omega⟩
      · exact ⟨g, by rw [List.getElem?_set_ne e]; exact h1, h2⟩
theorem Heard.taken {m L i dbl : Nat} {xs : List (Int × Int)} {hs : List Int} (H : Heard m L i dbl xs hs) {x k : Nat} {h : Int} (hx : xs[k]? = some ((x : Int) % 3, (x : Int))) (hh : hs[x]? = some h) : Heard m L (i + 1) dbl (xs.eraseIdx k) (hs.set x (h + 1)) where
  len := by rw [List.length_set]; exact H.len
  few := by rw [List.length_eraseIdx]; have := H.few; split <;> omega
  steps := by
    have hk := (List.getElem?_eq_some_iff.1 hx).1
    rw [List.length_eraseIdx, if_pos hk]; have := H.steps; have := H.few; omega
  dbls := by have := H.dbls; omega
  form := fun q hq => H.form q (List.mem_of_mem_eraseIdx hq)
  each := fun g hg => by
    have h0 := H.each h (List.mem_of_getElem? hh)
    rcases List.mem_or_eq_of_mem_set hg with h1 | h1
    · have := H.each g h1; omega
    · omega
  sum := by
    have hk := (List.getElem?_eq_some_iff.1 hx).1
    rw [sum_set hs x h (h + 1) hh, List.length_eraseIdx, if_pos hk]; have := H.sum; omega
  all := fun y hy => by
    by_cases e : x = y
    · subst e
      have h0 := H.each h (List.mem_of_getElem? hh)
      exact .inr ⟨h + 1, by rw [List.getElem?_set_self (List.getElem?_eq_some_iff.1 hh).1], by omega⟩
    · rcases H.all y hy with h1 | ⟨g, h1, h2⟩
      · rcases mem_eraseIdx_of xs k _ _ hx h1 with h3 | h3
        · exfalso
          injection h3 with _ h4
          omega
        · exact .inl h3
      · exact .inr ⟨g, by rw [List.getElem?_set_ne e]; exact h1, h2⟩
theorem sum_take_succ (l : List Int) (j : Nat) (h : Int) (hj : l[j]? = some h) : (l.take (j + 1)).sum = (l.take j).sum + h := by
  rw [List.take_add_one, hj]; simp
theorem sum_take_bound (l : List Int) (B : Int) (hB : ∀ h ∈ l, 0 ≤ h ∧ h ≤ B) (hB0 : 0 ≤ B) (j : Nat) : 0 ≤ (l.take j).sum ∧ (l.take j).sum ≤ j * B := by
  induction l generalizing j with
  | nil => simp; exact Int.mul_nonneg (by omega) hB0
  | cons a l ih =>
    cases j with
    | zero => simp
    | succ j =>
      obtain ⟨h1, h2⟩ := ih (fun h hh => hB h (by simp [hh])) j
      obtain ⟨h3, h4⟩ := hB a (by simp)
      simp only [List.take_succ_cons, List.sum_cons]
      refine ⟨by omega, ?_⟩
      have : ((j + 1 : Nat) : Int) * B = j * B + B := by rw [Int.natCast_add, Int.add_mul]; simp
      omega
set_option maxRecDepth 100000 in
set_option maxHeartbeats 2000000 in
theorem netheard_walk (nv : Int) (A : Option Addr) (L c : Nat) (picks : List Int) (w : World) (hnv : (Lit.int .i64 nv).wf = true) (hr : RdL (Enc.num .i8) w (.slice A L c) picks) (hok : ∀ x ∈ picks, (Lit.int .i8 x).wf = true) :
    Calls Try.prog 4 #[.int .i64 nv, .slice A L c] w fun e w' => e = .returned (.bool true) ∧ Below w.heap.size w w' := by
  obtain ⟨hn, hnc, hc63⟩ := hr.caps
  replace hn := Lib.hid hn
  replace hr := Lib.hid hr
  replace hok := Lib.hid hok
  have hnv1 : -9223372036854775808 ≤ nv ∧ nv ≤ 9223372036854775807 := by simpa [Lit.wf, IntKind.min, IntKind.max, IntKind.signed, IntKind.bits] using hnv
  obtain ⟨hnv1, hnv2⟩ := hnv1
  clear hnv
  obtain ⟨m, hm⟩ : ∃ m : Nat, nv % 40 = (m : Int) := ⟨(nv % 40).toNat, by omega⟩
  have hm40 : m < 40 := by omega
  replace hm := Lib.hid hm
  by_cases hlong : 200 < (L : Int)
  · go_enter Try.func4, Try.ntmps4
    go_wp2_with fail
    refine (known6 w w _ (Hs.start w)).mono ?_
    rintro e w1 ⟨rfl, H⟩
    go_wp2_with fail
    refine (place10 nv 40 _ (by omega) (by omega) (by omega) (by omega)).mono ?_
    rw [hm.out]
    rintro e w2 ⟨rfl, rfl⟩
    go_wp2_with fail
    go_ret
    exact ⟨rfl, below_of H⟩
  · replace hlong : (L : Int) ≤ 200 := by omega
    have hmk := run_make_row' (P := Try.prog) 26 3 (.int .i64 0) 8 Try.underlying26 info30 rfl .i64 .i64 m (by omega) (by omega)
    go_enter Try.func4, Try.ntmps4
    go_wp2_with fail
    refine (known6 w w _ (Hs.start w)).mono ?_
    rintro e w1 ⟨rfl, H⟩
    go_wp2_with fail
    refine (place10 nv 40 _ (by omega) (by omega) (by omega) (by omega)).mono ?_
    rw [hm.out]
    rintro e w2 ⟨rfl, rfl⟩
    go_wp2_with fail
    refine (cloud_new7 _ _ _ H).mono ?_
    rintro e w2 ⟨p, rfl, H⟩
    replace H := Lib.hid H
    go_wp2_with fail
    go_loopg [6] m (fun k i wr => ∃ j : Nat, k + j = m ∧ i = .int .i64 j ∧ Hid (Hs w wr [Cloud p (initL j), Old w]))
    case atStart => exact ⟨0, rfl, rfl, H⟩
    case round =>
      clear H
      obtain ⟨j, hk, rfl, H⟩ := hrel
      have hjm : j ≤ m := by omega
      replace hk := Lib.hid hk
      rcases Nat.lt_or_ge j m with hj | hj
      · have hj0 : (0 : Int) ≤ (j : Int) := by omega
        go_wp2_with fail
        refine (cloud_send8 p _ _ _ _ _ _ H.out (by rw [initL_length]; omega)).mono ?_
        rw [← initL_succ]
        rintro e1 w1 ⟨rfl, H⟩
        go_wp2_with fail
        go_roundg (m - (j + 1))
        case measure => have := hk.out; omega
        case rel => exact ⟨j + 1, by have := hk.out; omega, by go_num, H⟩
      · obtain rfl : j = m := by omega
        clear hk hj hjm
        go_wp2_with fail
        have H2 : Hid (Hs w (wr.alloc (.cells (madeCells #[.int .i64 0] j) 3)) [Ls (Enc.num .i64) 3 (.slice (some ⟨wr.heap.size, 0, none⟩) j j) (List.replicate j 0), Cloud p (initL j), Old w]) := H.out.ls_made 3 0 (.int .i64 0) rfl j (by omega)
        clear H hmk
        generalize wr.heap.size = g at *
        have hst := Lib.hid (Heard.start j L)
        go_loopg [8, 9] (L + j) (fun k dv iv wq => ∃ (i dbl : Nat) (xs : List (Int × Int)) (hs : List Int), dv = .int .i64 dbl ∧ iv = .int .i64 i ∧ Hid (k = (L - i) + xs.length) ∧ Hid (Heard j L i dbl xs hs) ∧ Hid (Hs w wq [Ls (Enc.num .i64) 3 (.slice (some ⟨g, 0, none⟩) j j) hs, Cloud p xs, Old w]))
        case atStart => exact ⟨0, 0, initL j, List.replicate j 0, rfl, rfl, by show _ = _; rw [initL_length]; omega, hst, H2⟩
        case round =>
          clear H2 hst
          obtain ⟨i, dbl, xs, hs, rfl, rfl, hk, hH, H⟩ := hrel
          have hi1 := hH.out.steps
          have hi2 := hH.out.few
          have hi3 := hH.out.dbls
          cases xs with
          | nil =>
            go_wp2_with fail
            refine (cloud_len11 p [] _ _ _ H.out.at1).mono ?_
            rintro e1 w1 ⟨rfl, rfl⟩
            go_wp2_with fail
            have hall : Hid (∀ x : Nat, x < j → ∃ h, hs[x]? = some h ∧ 1 ≤ h) := fun x hx => by
              rcases hH.out.all x hx with h | h
              · cases h
              · exact h
            have hlen : Hid (hs.length = j) := hH.out.len
            have hsum : Hid (hs.sum = (j : Int) + (dbl : Int)) := by have := hH.out.sum; simp at this; exact this
            have hbd : Hid (∀ q, 0 ≤ (hs.take q).sum ∧ (hs.take q).sum ≤ (q : Int) * (i : Int)) := fun q => sum_take_bound hs i hH.out.each (by omega) q
            have heach : Hid (∀ h ∈ hs, 0 ≤ h ∧ h ≤ (i : Int)) := hH.out.each
            clear hk hH
            go_loopg [16, 17] j (fun k sv iv wq => ∃ q : Nat, k + q = j ∧ iv = .int .i64 q ∧ sv = .int .i64 (hs.take q).sum ∧ Hid (Hs w wq [Ls (Enc.num .i64) 3 (.slice (some ⟨g, 0, none⟩) j j) hs, Cloud p [], Old w]))
            case atStart => exact ⟨0, rfl, rfl, rfl, H⟩
            case round =>
              clear H
              obtain ⟨q, hk, rfl, rfl, H⟩ := hrel
              have hqj : q ≤ j := by omega
              replace hk := Lib.hid hk
              rcases Nat.lt_or_ge q j with hq | hq
              · obtain ⟨h, hh, h1⟩ := hall.out q hq
                have h2 := (heach.out h (List.mem_of_getElem? hh)).2
                have hcell : wr.cell? ⟨g, q, none⟩ = some (.int .i64 h) := by have := H.out.ls_rd.cell hh 0 rfl; simpa [Enc.num] using this
                have hb0 := (hbd.out q).1
                have hb1 : (hs.take q).sum ≤ 40 * 240 := by
                  have := (hbd.out q).2
                  have h3 : (q : Int) * (i : Int) ≤ 40 * 240 := Int.mul_le_mul (by omega) (by omega) (by omega) (by omega)
                  omega
                have hne : (h == 0) = false := by rw [beq_eq_false_iff_ne]; omega
                have hq0 : (0 : Int) ≤ (q : Int) := by omega
                have hq1 : (q : Int) < (j : Int) := by omega
                have hts := Lib.hid (sum_take_succ hs q h hh)
                clear hh
                go_wp2_with fail
                go_roundg (j - (q + 1))
                case measure => have := hk.out; omega
                case rel => exact ⟨q + 1, by have := hk.out; omega, by go_num, by rw [hts.out], H⟩
              · obtain rfl : q = j := by omega
                have hts : Hid ((hs.take q).sum = (q : Int) + (dbl : Int)) := by show _ = _; rw [List.take_of_length_le (by rw [hlen.out]; exact Nat.le_refl _)]; exact hsum.out
                rw [hts.out]
                go_wp2_with fail
                go_ret
                exact ⟨by simp, below_of H.out.at2⟩
          | cons q0 xs0 =>
            generalize hxs : q0 :: xs0 = xs at *
            have hx0 : 0 < xs.length := by rw [← hxs]; simp
            clear hxs q0 xs0
            have hgt : ((0 : Int) < (xs.length : Int)) := by omega
            go_wp2_with fail
            refine (cloud_len11 p xs _ _ _ H.out.at1).mono ?_
            rintro e1 w1 ⟨rfl, rfl⟩
            rcases Nat.lt_or_ge i L with hiL | hiL
            · obtain ⟨g1, o1, rfl⟩ := hr.out.some_ (by have := hn.out; omega)
              obtain ⟨pk, hpk⟩ : ∃ x, picks[i]? = some x := ⟨_, List.getElem?_eq_getElem (by have := hn.out; omega)⟩
              have hcell : wr.cell? ⟨g1, o1 + i, none⟩ = some (.int .i8 pk) := by have := (hr.out.old H.out.at2).cell hpk 0 rfl; simpa [Enc.num] using this
              have hpk1 : -128 ≤ pk ∧ pk ≤ 127 := by have := hok.out pk (List.mem_of_getElem? hpk); simpa [Lit.wf, IntKind.min, IntKind.max, IntKind.signed, IntKind.bits] using this
              obtain ⟨hpk1, hpk2⟩ := hpk1
              clear hpk
              have hi0 : (0 : Int) ≤ (i : Int) := by omega
              have hiL' : (i : Int) < (L : Int) := by omega
              by_cases h3 : pk.tmod 3 = 0
              · have hb3 : (pk.tmod 3 == 0) = true := by rw [beq_iff_eq]; exact h3
                clear h3
                obtain ⟨kk, hk1⟩ : ∃ kk : Nat, (kk : Int) = pk % (xs.length : Int) := ⟨(pk % (xs.length : Int)).toNat, by have := Int.emod_nonneg (pk) (show (xs.length : Int) ≠ 0 by omega); omega⟩
                have hklt : kk < xs.length := by have := Int.emod_lt_of_pos (pk) (show (0 : Int) < (xs.length : Int) by omega); omega
                obtain ⟨q, hq⟩ : ∃ q, xs[kk]? = some q := ⟨_, List.getElem?_eq_getElem hklt⟩
                obtain ⟨x, hxj, rfl⟩ := hH.out.form q (List.mem_of_getElem? hq)
                obtain ⟨h, hh, hh0, hh1⟩ := hH.out.hs_some hxj
                replace hk1 := Lib.hid hk1
                replace hq := Lib.hid hq
                replace hh := Lib.hid hh
                have hxj' : (x : Int) < (j : Int) := by omega
                have hx1 : (0 : Int) ≤ (x : Int) := by omega
                have hi240 : (i : Int) ≤ 240 := by omega
                go_wp2_with fail
                refine (cloud_pick9 p (pk) 1 xs kk _ _ _ _ H.out.at1 hx0 (by omega) hk1.out hq.out).mono ?_
                rintro e1 w1 ⟨rfl, H3⟩
                have hc1 : w1.cell? ⟨g, x, none⟩ = some (.int .i64 h) := by have := H3.at1.ls_rd.cell hh.out 0 rfl; simpa [Enc.num] using this
                have hf1 : w1.frozen? ⟨g, x, none⟩ = false := H3.at1.ls_frozen x
                go_wp2_with fail
                go_roundg ((L - (i + 1)) + xs.length)
                case measure => have := hk.out; omega
                case rel =>
                  have H4 := H3.at1.ls_set0 rfl x hxj (h + 1) (.int .i64 (h + 1)) rfl
                  exact ⟨i + 1, dbl + 1, xs, hs.set x (h + 1), by go_num, by go_num, rfl, hH.out.doubled hiL hh.out, H4⟩
              · have hb3 : (pk.tmod 3 == 0) = false := by rw [beq_eq_false_iff_ne]; exact h3
                clear h3
                obtain ⟨kk, hk1⟩ : ∃ kk : Nat, (kk : Int) = pk % (xs.length : Int) := ⟨(pk % (xs.length : Int)).toNat, by have := Int.emod_nonneg (pk) (show (xs.length : Int) ≠ 0 by omega); omega⟩
                have hklt : kk < xs.length := by have := Int.emod_lt_of_pos (pk) (show (0 : Int) < (xs.length : Int) by omega); omega
                obtain ⟨q, hq⟩ : ∃ q, xs[kk]? = some q := ⟨_, List.getElem?_eq_getElem hklt⟩
                obtain ⟨x, hxj, rfl⟩ := hH.out.form q (List.mem_of_getElem? hq)
                obtain ⟨h, hh, hh0, hh1⟩ := hH.out.hs_some hxj
                replace hk1 := Lib.hid hk1
                replace hq := Lib.hid hq
                replace hh := Lib.hid hh
                have hxj' : (x : Int) < (j : Int) := by omega
                have hx1 : (0 : Int) ≤ (x : Int) := by omega
                have hi240 : (i : Int) ≤ 240 := by omega
                go_wp2_with fail
                refine (cloud_pick9 p (pk) 0 xs kk _ _ _ _ H.out.at1 hx0 (by omega) hk1.out hq.out).mono ?_
                rintro e1 w1 ⟨rfl, H3⟩
                have hc1 : w1.cell? ⟨g, x, none⟩ = some (.int .i64 h) := by have := H3.at1.ls_rd.cell hh.out 0 rfl; simpa [Enc.num] using this
                have hf1 : w1.frozen? ⟨g, x, none⟩ = false := H3.at1.ls_frozen x
                go_wp2_with fail
                go_roundg ((L - (i + 1)) + (xs.eraseIdx kk).length)
                case measure => have := hk.out; have := hH.out.few; rw [List.length_eraseIdx, if_pos hklt]; omega
                case rel =>
                  have H4 := H3.at1.ls_set0 rfl x hxj (h + 1) (.int .i64 (h + 1)) rfl
                  exact ⟨i + 1, dbl, xs.eraseIdx kk, hs.set x (h + 1), by go_num, by go_num, rfl, hH.out.taken hq.out hh.out, H4⟩
            · have hiL' : (L : Int) ≤ (i : Int) := by omega
              obtain ⟨kk, hk1⟩ : ∃ kk : Nat, (kk : Int) = 0 % (xs.length : Int) := ⟨(0 % (xs.length : Int)).toNat, by have := Int.emod_nonneg (0) (show (xs.length : Int) ≠ 0 by omega); omega⟩
              have hklt : kk < xs.length := by have := Int.emod_lt_of_pos (0) (show (0 : Int) < (xs.length : Int) by omega); omega
              obtain ⟨q, hq⟩ : ∃ q, xs[kk]? = some q := ⟨_, List.getElem?_eq_getElem hklt⟩
              obtain ⟨x, hxj, rfl⟩ := hH.out.form q (List.mem_of_getElem? hq)
              obtain ⟨h, hh, hh0, hh1⟩ := hH.out.hs_some hxj
              replace hk1 := Lib.hid hk1
              replace hq := Lib.hid hq
              replace hh := Lib.hid hh
              have hxj' : (x : Int) < (j : Int) := by omega
              have hx1 : (0 : Int) ≤ (x : Int) := by omega
              have hi240 : (i : Int) ≤ 240 := by omega
              go_wp2_with fail
              refine (cloud_pick9 p (0) 0 xs kk _ _ _ _ H.out.at1 hx0 (by omega) hk1.out hq.out).mono ?_
              rintro e1 w1 ⟨rfl, H3⟩
              have hc1 : w1.cell? ⟨g, x, none⟩ = some (.int .i64 h) := by have := H3.at1.ls_rd.cell hh.out 0 rfl; simpa [Enc.num] using this
              have hf1 : w1.frozen? ⟨g, x, none⟩ = false := H3.at1.ls_frozen x
              go_wp2_with fail
              go_roundg ((L - (i + 1)) + (xs.eraseIdx kk).length)
              case measure => have := hk.out; have := hH.out.few; rw [List.length_eraseIdx, if_pos hklt]; omega
              case rel =>
                have H4 := H3.at1.ls_set0 rfl x hxj (h + 1) (.int .i64 (h + 1)) rfl
                exact ⟨i + 1, dbl, xs.eraseIdx kk, hs.set x (h + 1), by go_num, by go_num, rfl, hH.out.taken hq.out hh.out, H4⟩
end Go.Proofs.Ytlaicngliopjoaa

import Derived.Test.YtlaicngliopjoaaDel
import Derived.Test.YtlaicngliopjoaaProg
import Derived.Test.YtlaicngliopjoaaLs
import Derived.Outline
import Derived.StillTailTactics
import Derived.Deep.DeepCutAuto
import Derived.Deep.CutBlock
import Derived.Deep.LoopGhost
import Derived.Deep.QuietTactic
import Derived.BigQuiet
import Derived.Deep.RegionHeld3
import Derived.Deep.RegionLaw
set_option linter.unusedVariables false
set_option linter.unusedSimpArgs false
namespace Go.Proofs.Ytlaicngliopjoaa
open Go.RowKit
/-- A cloud at block p. -/
def Cloud (p : Nat) (xs : List (Int × Int)) : HP := Ex fun v => Star (Blk p (.cells #[v] 62 (0, 0))) (Ls (Enc.pair (Enc.num .i64) (Enc.num .i64)) 64 v xs)
theorem Cloud.open_ {p : Nat} {xs : List (Int × Int)} {w w0 : World} {R : List HP} (H : Hs w0 w (Cloud p xs :: R)) :
    ∃ A c, Hs w0 w (Blk p (.cells #[.slice A xs.length c] 62 (0, 0)) :: Ls (Enc.pair (Enc.num .i64) (Enc.num .i64)) 64 (.slice A xs.length c) xs :: R) := by
  obtain ⟨v, H⟩ := H.ex
  have H := H.part
  obtain ⟨A, c, rfl⟩ := H.at1.ls_form
  exact ⟨A, c, H⟩
theorem Cloud.mk_ {p : Nat} {v : Value} {xs : List (Int × Int)} {w w0 : World} {R : List HP} (H : Hs w0 w (Blk p (.cells #[v] 62 (0, 0)) :: Ls (Enc.pair (Enc.num .i64) (Enc.num .i64)) 64 v xs :: R)) : Hs w0 w (Cloud p xs :: R) :=
  H.join.mono fun h hh => ⟨_, hh⟩
theorem cloud_new7 (w w0 : World) (R : List HP) (H : Hs w0 w R) : Calls Try.prog 7 #[] w fun e w' => ∃ p, e = .returned (.pointer (some ⟨p, 0, none⟩)) ∧ Hs w0 w' (Cloud p [] :: R) := by
  go_enter Try.func7, Try.ntmps7
  go_wp2
  go_ret
  exact ⟨_, rfl, Cloud.mk_ ((H.ls_nil (Enc.pair (Enc.num .i64) (Enc.num .i64)) 64).alloc _)⟩
theorem cloud_len11 (p : Nat) (xs : List (Int × Int)) (w w0 : World) (R : List HP) (H : Hs w0 w (Cloud p xs :: R)) :
    Calls Try.prog 11 #[.pointer (some ⟨p, 0, none⟩)] w fun e w' => e = .returned (.int .i64 xs.length) ∧ w = w' := by
  obtain ⟨A, c, H⟩ := Cloud.open_ H
  have hc := H.cellOf 0 rfl
  go_enter Try.func11, Try.ntmps11
  go_wp2_with fail
  go_ret
  exact ⟨rfl, rfl⟩
theorem cloud_send8 (p : Nat) (d : Int) (x : Int) (xs : List (Int × Int)) (w w0 : World) (R : List HP) (H : Hs w0 w (Cloud p xs :: R)) (hb : xs.length ≤ 1000000) :
    Calls Try.prog 8 #[.pointer (some ⟨p, 0, none⟩), .int .i64 d, Value.int .i64 x] w fun e w' => e = .returned (.tuple #[]) ∧ Hs w0 w' (Cloud p (xs ++ [(d, x)]) :: R) := by
  obtain ⟨A0, c0, H⟩ := Cloud.open_ H
  have hc := H.cellOf 0 rfl
  go_enter Try.func8, Try.ntmps8
  go_wp2_with (at_builtin; refine wpList_append1L (E := Enc.pair (Enc.num .i64) (Enc.num .i64)) rfl (.tmp 10) (.tmp 14) 60 rfl 64 _ 2 16 Try.underlying60 info29 rfl (by decide) (by decide) rfl rfl rfl H.at1 (d, x) (by omega) ?_)
  intro A cap w1 H1
  have H1 := H1.at1
  have hc1 := H1.cellOf 0 rfl
  have hf1 := H1.frozenOf 0
  clear hc
  go_wp2_with fail
  go_end0
  exact ⟨rfl, Cloud.mk_ (H1.setCell (i := 0) _)⟩
theorem cloud_pick_nil9 (p : Nat) (i how : Int) (w w0 : World) (R : List HP) (H : Hs w0 w (Cloud p [] :: R)) :
    Calls Try.prog 9 #[.pointer (some ⟨p, 0, none⟩), .int .i64 i, .int .i64 how] w fun e w' => e = .returned (.tuple #[.int .i64 0, Value.int .i64 (0), .bool false, .int .i64 52]) ∧ w = w' := by
  obtain ⟨A0, c0, H⟩ := Cloud.open_ H
  have hc := H.cellOf 0 rfl
  simp only [List.length_nil] at hc
  go_enter Try.func9, Try.ntmps9
  go_wp2_with fail
  exact bodyPost_ret (v := .tuple #[.int .i64 0, Value.int .i64 (0), .bool false, .int .i64 52]) (by first | (simp [results, Try.results9, go_sem]; done) | (simp [results, Try.results9, go_sem]; rfl)) rfl ⟨rfl, rfl⟩
/-- Where the walk stands at its last statement. -/
theorem cloud_pick9 (p : Nat) (i how : Int) (xs : List (Int × Int)) (k : Nat) (m : Int × Int) (w w0 : World) (R : List HP) (H : Hs w0 w (Cloud p xs :: R)) (hpos : 0 < xs.length) (hb : xs.length ≤ 1000000) (hk : (k : Int) = i % (xs.length : Int)) (hm : xs[k]? = some m) :
    Calls Try.prog 9 #[.pointer (some ⟨p, 0, none⟩), .int .i64 i, .int .i64 how] w fun e w' =>
      e = .returned (.tuple (if how = 2 then #[.int .i64 0, Value.int .i64 (0), .bool false, .int .i64 0] else #[.int .i64 m.1, Value.int .i64 m.2, .bool true, .int .i64 0])) ∧ Hs w0 w' (Cloud p (if how = 1 then xs else xs.eraseIdx k) :: R) := by
  obtain ⟨A0, c0, H⟩ := Cloud.open_ H
  have hrd := H.at1.ls_rd
  obtain ⟨g, off, rfl⟩ := hrd.some_ hpos
  have hc := H.cellOf 0 rfl
  have hx0 : w.cell? ⟨g, off + k * 2, none⟩ = some (.int .i64 m.1) := hrd.cell hm 0 rfl
  have hx1 : w.cell? ⟨g, off + k * 2 + 1, none⟩ = some (Value.int .i64 m.2) := hrd.cell hm 1 rfl
  have hkl := (List.getElem?_eq_some_iff.1 hm).1
  have hfin : Hid (xs.take k ++ xs.drop (k + 1) = xs.eraseIdx k) := by show _ = _; rw [List.eraseIdx_eq_take_drop_succ]
  have H0 := H.alloc (.cells #[.int .i64 m.1, Value.int .i64 m.2] 64)
  have hH0 := Lib.hid H0
  clear H0 hrd hm
  have hE := Lib.hid H
  clear H
  have hpl := hE.out.lt
  generalize hn : xs.length = n at *
  replace hn := Lib.hid hn
  have hlo : -(n : Int) < i.tmod n := by have := Int.lt_tmod_of_pos i (show 0 < (n : Int) by omega); omega
  have hhi : i.tmod n < (n : Int) := Int.tmod_lt_of_pos i (by omega)
  have hp0 : ((n : Int) == 0) = false := by rw [beq_eq_false_iff_ne]; omega
  have hz : (n : Int) ≠ 0 := by omega
  have hkn : (k : Int) < (n : Int) := by omega
  have hk0 : (0 : Int) ≤ (k : Int) := by omega
  rcases (show how = 1 ∨ (how ≠ 1 ∧ how = 2) ∨ (how ≠ 1 ∧ how ≠ 2) by omega) with h1 | ⟨h1, h2⟩ | ⟨h1, h2⟩
  -- doubled
  · subst h1
    rcases Int.lt_or_le (i.tmod n) 0 with hneg | hneg
    all_goals
      first
        | have hkk : i.tmod n + (n : Int) = (k : Int) := by rw [hk, tmod_up i n (by omega) hneg]
        | have hkk : i.tmod n = (k : Int) := by rw [hk, tmod_in i n (by omega) hneg]
      clear hk
      go_enter Try.func9, Try.ntmps9
      go_wp2_with fail
      go_quiet (fail)
      go_wp2_with fail
      refine bodyPost_ret (v := .tuple #[.int .i64 m.1, Value.int .i64 m.2, .bool true, .int .i64 0]) (by simp [results, Try.results9, go_sem]) rfl ⟨by simp, ?_⟩
      try rw [if_pos rfl]
      exact Cloud.mk_ ((hH0.out.drop).drewN _)
  -- lost
  · subst h2
    rcases Int.lt_or_le (i.tmod n) 0 with hneg | hneg
    all_goals
      first
        | have hkk : i.tmod n + (n : Int) = (k : Int) := by rw [hk, tmod_up i n (by omega) hneg]
        | have hkk : i.tmod n = (k : Int) := by rw [hk, tmod_in i n (by omega) hneg]
      clear hk
      go_enter Try.func9, Try.ntmps9
      go_wp2_with (go_at_call 29; refine (delete29 _ xs _ _ _ _ _ hH0.out.drop.at1 (by omega) (by omega) (by rw [hn.out]; omega) (by rw [hn.out]; omega)).mono ?_)
      rintro e w1 ⟨A, c, mm, hmm, rfl, H1⟩
      have H1 := H1.at1
      replace hmm := Lib.hid hmm
      simp only [Int.toNat_natCast, show ((k : Int) + 1).toNat = k + 1 from by omega, hfin.out] at H1
      clear hx0 hx1 hc hpl
      have hc1 := H1.cellOf 0 rfl
      have hf1 := H1.frozenOf 0
      go_wp2_with fail
      refine bodyPost_ret (v := .tuple #[.int .i64 0, Value.int .i64 (0), .bool false, .int .i64 0]) (by first | (simp [results, Try.results9, go_sem]; done) | (simp [results, Try.results9, go_sem]; rfl)) rfl ⟨by simp, ?_⟩
      try rw [if_neg h1]
      exact Cloud.mk_ (H1.setCell (i := 0) _)
  -- told
  · have hb1 : (how != 1) = true := by rw [bne_iff_ne]; exact h1
    have hb2 : (how == 2) = false := by rw [beq_eq_false_iff_ne]; exact h2
    rcases Int.lt_or_le (i.tmod n) 0 with hneg | hneg
    all_goals
      first
        | have hkk : i.tmod n + (n : Int) = (k : Int) := by rw [hk, tmod_up i n (by omega) hneg]
        | have hkk : i.tmod n = (k : Int) := by rw [hk, tmod_in i n (by omega) hneg]
      clear hk
      go_enter Try.func9, Try.ntmps9
      go_wp2_with (go_at_call 29; refine (delete29 _ xs _ _ _ _ _ hH0.out.at2 (by omega) (by omega) (by rw [hn.out]; omega) (by rw [hn.out]; omega)).mono ?_)
      rintro e w1 ⟨A, c, mm, hmm, rfl, H1⟩
      have H1 := H1.at2
      replace hmm := Lib.hid hmm
      simp only [Int.toNat_natCast, show ((k : Int) + 1).toNat = k + 1 from by omega, hfin.out] at H1
      clear hx0 hx1 hc hpl
      have hc1 := H1.cellOf 0 rfl
      have hf1 := H1.frozenOf 0
      go_wp2_with fail
      have H2 := H1.setCell (i := 0) (.slice A mm c)
      generalize w1.setCell _ _ = w2 at H2 ⊢
      have hd0 : w2.cell? ⟨w.heap.size, 0, none⟩ = some (.int .i64 m.1) := H2.at2.cellOf 0 rfl
      have hd1 : w2.cell? ⟨w.heap.size, 1, none⟩ = some (Value.int .i64 m.2) := H2.at2.cellOf 1 rfl
      clear hc1 hf1 H1
      go_quiet (fail)
      go_wp2_with fail
      refine bodyPost_ret (v := .tuple #[.int .i64 m.1, Value.int .i64 m.2, .bool true, .int .i64 0]) (by simp [results, Try.results9, go_sem]) rfl ⟨by simp [h2], ?_⟩
      try rw [if_neg h1]
      exact Cloud.mk_ ((H2.at2.drop).drewN _)
/-- A cloud at block p. -/
def CloudS (p : Nat) (xs : List (Int × ByteArray)) : HP := Ex fun v => Star (Blk p (.cells #[v] 75 (0, 0))) (Ls (Enc.pair (Enc.num .i64) Enc.str) 78 v xs)
theorem CloudS.open_ {p : Nat} {xs : List (Int × ByteArray)} {w w0 : World} {R : List HP} (H : Hs w0 w (CloudS p xs :: R)) :
    ∃ A c, Hs w0 w (Blk p (.cells #[.slice A xs.length c] 75 (0, 0)) :: Ls (Enc.pair (Enc.num .i64) Enc.str) 78 (.slice A xs.length c) xs :: R) := by
  obtain ⟨v, H⟩ := H.ex
  have H := H.part
  obtain ⟨A, c, rfl⟩ := H.at1.ls_form
  exact ⟨A, c, H⟩
theorem CloudS.mk_ {p : Nat} {v : Value} {xs : List (Int × ByteArray)} {w w0 : World} {R : List HP} (H : Hs w0 w (Blk p (.cells #[v] 75 (0, 0)) :: Ls (Enc.pair (Enc.num .i64) Enc.str) 78 v xs :: R)) : Hs w0 w (CloudS p xs :: R) :=
  H.join.mono fun h hh => ⟨_, hh⟩
theorem cloud_new21 (w w0 : World) (R : List HP) (H : Hs w0 w R) : Calls Try.prog 21 #[] w fun e w' => ∃ p, e = .returned (.pointer (some ⟨p, 0, none⟩)) ∧ Hs w0 w' (CloudS p [] :: R) := by
  go_enter Try.func21, Try.ntmps21
  go_wp2
  go_ret
  exact ⟨_, rfl, CloudS.mk_ ((H.ls_nil (Enc.pair (Enc.num .i64) Enc.str) 78).alloc _)⟩
theorem cloud_len27 (p : Nat) (xs : List (Int × ByteArray)) (w w0 : World) (R : List HP) (H : Hs w0 w (CloudS p xs :: R)) :
    Calls Try.prog 27 #[.pointer (some ⟨p, 0, none⟩)] w fun e w' => e = .returned (.int .i64 xs.length) ∧ w = w' := by
  obtain ⟨A, c, H⟩ := CloudS.open_ H
  have hc := H.cellOf 0 rfl
  go_enter Try.func27, Try.ntmps27
  go_wp2_with fail
  go_ret
  exact ⟨rfl, rfl⟩
theorem cloud_send25 (p : Nat) (d : Int) (x : ByteArray) (xs : List (Int × ByteArray)) (w w0 : World) (R : List HP) (H : Hs w0 w (CloudS p xs :: R)) (hb : xs.length ≤ 1000000) :
    Calls Try.prog 25 #[.pointer (some ⟨p, 0, none⟩), .int .i64 d, Value.string x] w fun e w' => e = .returned (.tuple #[]) ∧ Hs w0 w' (CloudS p (xs ++ [(d, x)]) :: R) := by
  obtain ⟨A0, c0, H⟩ := CloudS.open_ H
  have hc := H.cellOf 0 rfl
  go_enter Try.func25, Try.ntmps25
  go_wp2_with (at_builtin; refine wpList_append1L (E := Enc.pair (Enc.num .i64) Enc.str) rfl (.tmp 10) (.tmp 14) 73 rfl 78 _ 2 24 Try.underlying73 info33 rfl (by decide) (by decide) rfl rfl rfl H.at1 (d, x) (by omega) ?_)
  intro A cap w1 H1
  have H1 := H1.at1
  have hc1 := H1.cellOf 0 rfl
  have hf1 := H1.frozenOf 0
  clear hc
  go_wp2_with fail
  go_end0
  exact ⟨rfl, CloudS.mk_ (H1.setCell (i := 0) _)⟩
theorem cloud_pick_nil26 (p : Nat) (i how : Int) (w w0 : World) (R : List HP) (H : Hs w0 w (CloudS p [] :: R)) :
    Calls Try.prog 26 #[.pointer (some ⟨p, 0, none⟩), .int .i64 i, .int .i64 how] w fun e w' => e = .returned (.tuple #[.int .i64 0, Value.string (ByteArray.empty), .bool false, .int .i64 52]) ∧ w = w' := by
  obtain ⟨A0, c0, H⟩ := CloudS.open_ H
  have hc := H.cellOf 0 rfl
  simp only [List.length_nil] at hc
  go_enter Try.func26, Try.ntmps26
  go_wp2_with fail
  exact bodyPost_ret (v := .tuple #[.int .i64 0, Value.string (ByteArray.empty), .bool false, .int .i64 52]) (by first | (simp [results, Try.results26, go_sem]; done) | (simp [results, Try.results26, go_sem]; rfl)) rfl ⟨rfl, rfl⟩
/-- Where the walk stands at its last statement. -/
theorem cloud_pick26 (p : Nat) (i how : Int) (xs : List (Int × ByteArray)) (k : Nat) (m : Int × ByteArray) (w w0 : World) (R : List HP) (H : Hs w0 w (CloudS p xs :: R)) (hpos : 0 < xs.length) (hb : xs.length ≤ 1000000) (hk : (k : Int) = i % (xs.length : Int)) (hm : xs[k]? = some m) :
    Calls Try.prog 26 #[.pointer (some ⟨p, 0, none⟩), .int .i64 i, .int .i64 how] w fun e w' =>
      e = .returned (.tuple (if how = 2 then #[.int .i64 0, Value.string (ByteArray.empty), .bool false, .int .i64 0] else #[.int .i64 m.1, Value.string m.2, .bool true, .int .i64 0])) ∧ Hs w0 w' (CloudS p (if how = 1 then xs else xs.eraseIdx k) :: R) := by
  obtain ⟨A0, c0, H⟩ := CloudS.open_ H
  have hrd := H.at1.ls_rd
  obtain ⟨g, off, rfl⟩ := hrd.some_ hpos
  have hc := H.cellOf 0 rfl
  have hx0 : w.cell? ⟨g, off + k * 2, none⟩ = some (.int .i64 m.1) := hrd.cell hm 0 rfl
  have hx1 : w.cell? ⟨g, off + k * 2 + 1, none⟩ = some (Value.string m.2) := hrd.cell hm 1 rfl
  have hkl := (List.getElem?_eq_some_iff.1 hm).1
  have hfin : Hid (xs.take k ++ xs.drop (k + 1) = xs.eraseIdx k) := by show _ = _; rw [List.eraseIdx_eq_take_drop_succ]
  have H0 := H.alloc (.cells #[.int .i64 m.1, Value.string m.2] 78)
  have hH0 := Lib.hid H0
  clear H0 hrd hm
  have hE := Lib.hid H
  clear H
  have hpl := hE.out.lt
  generalize hn : xs.length = n at *
  replace hn := Lib.hid hn
  have hlo : -(n : Int) < i.tmod n := by have := Int.lt_tmod_of_pos i (show 0 < (n : Int) by omega); omega
  have hhi : i.tmod n < (n : Int) := Int.tmod_lt_of_pos i (by omega)
  have hp0 : ((n : Int) == 0) = false := by rw [beq_eq_false_iff_ne]; omega
  have hz : (n : Int) ≠ 0 := by omega
  have hkn : (k : Int) < (n : Int) := by omega
  have hk0 : (0 : Int) ≤ (k : Int) := by omega
  rcases (show how = 1 ∨ (how ≠ 1 ∧ how = 2) ∨ (how ≠ 1 ∧ how ≠ 2) by omega) with h1 | ⟨h1, h2⟩ | ⟨h1, h2⟩
  -- doubled
  · subst h1
    rcases Int.lt_or_le (i.tmod n) 0 with hneg | hneg
    all_goals
      first
        | have hkk : i.tmod n + (n : Int) = (k : Int) := by rw [hk, tmod_up i n (by omega) hneg]
        | have hkk : i.tmod n = (k : Int) := by rw [hk, tmod_in i n (by omega) hneg]
      clear hk
      go_enter Try.func26, Try.ntmps26
      go_wp2_with fail
      go_quiet (fail)
      go_wp2_with fail
      refine bodyPost_ret (v := .tuple #[.int .i64 m.1, Value.string m.2, .bool true, .int .i64 0]) (by simp [results, Try.results26, go_sem]) rfl ⟨by simp, ?_⟩
      try rw [if_pos rfl]
      exact CloudS.mk_ ((hH0.out.drop).drewN _)
  -- lost
  · subst h2
    rcases Int.lt_or_le (i.tmod n) 0 with hneg | hneg
    all_goals
      first
        | have hkk : i.tmod n + (n : Int) = (k : Int) := by rw [hk, tmod_up i n (by omega) hneg]
        | have hkk : i.tmod n = (k : Int) := by rw [hk, tmod_in i n (by omega) hneg]
      clear hk
      go_enter Try.func26, Try.ntmps26
      go_wp2_with (go_at_call 33; refine (delete33 _ xs _ _ _ _ _ hH0.out.drop.at1 (by omega) (by omega) (by rw [hn.out]; omega) (by rw [hn.out]; omega)).mono ?_)
      rintro e w1 ⟨A, c, mm, hmm, rfl, H1⟩
      have H1 := H1.at1
      replace hmm := Lib.hid hmm
      simp only [Int.toNat_natCast, show ((k : Int) + 1).toNat = k + 1 from by omega, hfin.out] at H1
      clear hx0 hx1 hc hpl
      have hc1 := H1.cellOf 0 rfl
      have hf1 := H1.frozenOf 0
      go_wp2_with fail
      refine bodyPost_ret (v := .tuple #[.int .i64 0, Value.string (ByteArray.empty), .bool false, .int .i64 0]) (by first | (simp [results, Try.results26, go_sem]; done) | (simp [results, Try.results26, go_sem]; rfl)) rfl ⟨by simp, ?_⟩
      try rw [if_neg h1]
      exact CloudS.mk_ (H1.setCell (i := 0) _)
  -- told
  · have hb1 : (how != 1) = true := by rw [bne_iff_ne]; exact h1
    have hb2 : (how == 2) = false := by rw [beq_eq_false_iff_ne]; exact h2
    rcases Int.lt_or_le (i.tmod n) 0 with hneg | hneg
    all_goals
      first
        | have hkk : i.tmod n + (n : Int) = (k : Int) := by rw [hk, tmod_up i n (by omega) hneg]
        | have hkk : i.tmod n = (k : Int) := by rw [hk, tmod_in i n (by omega) hneg]
      clear hk
      go_enter Try.func26, Try.ntmps26
      go_wp2_with (go_at_call 33; refine (delete33 _ xs _ _ _ _ _ hH0.out.at2 (by omega) (by omega) (by rw [hn.out]; omega) (by rw [hn.out]; omega)).mono ?_)
      rintro e w1 ⟨A, c, mm, hmm, rfl, H1⟩
      have H1 := H1.at2
      replace hmm := Lib.hid hmm
      simp only [Int.toNat_natCast, show ((k : Int) + 1).toNat = k + 1 from by omega, hfin.out] at H1
      clear hx0 hx1 hc hpl
      have hc1 := H1.cellOf 0 rfl
      have hf1 := H1.frozenOf 0
      go_wp2_with fail
      have H2 := H1.setCell (i := 0) (.slice A mm c)
      generalize w1.setCell _ _ = w2 at H2 ⊢
      have hd0 : w2.cell? ⟨w.heap.size, 0, none⟩ = some (.int .i64 m.1) := H2.at2.cellOf 0 rfl
      have hd1 : w2.cell? ⟨w.heap.size, 1, none⟩ = some (Value.string m.2) := H2.at2.cellOf 1 rfl
      clear hc1 hf1 H1
      go_quiet (fail)
      go_wp2_with fail
      refine bodyPost_ret (v := .tuple #[.int .i64 m.1, Value.string m.2, .bool true, .int .i64 0]) (by simp [results, Try.results26, go_sem]) rfl ⟨by simp [h2], ?_⟩
      try rw [if_neg h1]
      exact CloudS.mk_ ((H2.at2.drop).drewN _)
end Go.Proofs.Ytlaicngliopjoaa

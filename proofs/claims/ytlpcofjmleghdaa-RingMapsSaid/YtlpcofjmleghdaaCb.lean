import Derived.Test.YtlpcofjmleghdaaCa
import Derived.IntWalk
import Derived.Test.YtlpcofjmleghdaaProg
import Derived.Test.YtlpcofjmleghdaaLs
import Derived.Outline
import Derived.StillTailTactics
import Derived.Deep.DeepCutAuto
import Derived.Deep.CutBlock
import Derived.Deep.LoopGhost
import Derived.Deep.QuietTactic
import Derived.BigQuiet
import Derived.Deep.RegionHeld3
import Derived.Deep.RegionLaw
set_option linter.unusedVariables false
set_option linter.unusedSimpArgs false
namespace Go.Proofs.Ytlpcofjmleghdaa
open Go.RowKit
open Go.Conc
section
variable {w0 w : World} {R : List HP}
theorem Hs.setChan {c cap cap2 s s2 r r2 : Nat} {buf buf2 : Array Value} {cl cl2 tm tm2 : Bool} (H : Hs w0 w (Blk c (.chan cap buf cl s r tm) :: R)) : Hs w0 (w.setChan c cap2 buf2 cl2 s2 r2 tm2) (Blk c (.chan cap2 buf2 cl2 s2 r2 tm2) :: R) :=
  H.write rfl rfl rfl (heap_setChan w c cap2 buf2 cl2 s2 r2 tm2 H.lt) (fun k hk => by simp only [World.setChan]; rw [Array.getElem?_setIfInBounds_ne (Ne.symm hk)])
/-- A queue that is handed over by a channel: block p, its struct's type T, room for cap things; vs: what lies in it. -/
def Ty {α : Type} (T : TypeId) (V : α → Value) (p cap : Nat) (vs : List α) : HP := Ex fun x : Nat × Nat × Nat => Star (Blk p (.cells #[.chan (some x.1)] T)) (Blk x.1 (.chan cap (vs.map V).toArray false x.2.1 x.2.2 false))
theorem Ty.open_ {α : Type} {T : TypeId} {V : α → Value} {p cap : Nat} {vs : List α} (H : Hs w0 w (Ty T V p cap vs :: R)) : ∃ c s r, Hs w0 w (Blk p (.cells #[.chan (some c)] T) :: Blk c (.chan cap (vs.map V).toArray false s r false) :: R) := by
  obtain ⟨⟨c, s, r⟩, h⟩ := H.ex
  exact ⟨c, s, r, h.part⟩
theorem Ty.close {α : Type} {T : TypeId} {V : α → Value} {p cap c s r : Nat} {vs : List α} (H : Hs w0 w (Blk p (.cells #[.chan (some c)] T) :: Blk c (.chan cap (vs.map V).toArray false s r false) :: R)) : Hs w0 w (Ty T V p cap vs :: R) :=
  Hs.mk_ex (f := fun x : Nat × Nat × Nat => Star (Blk p (.cells #[.chan (some x.1)] T)) (Blk x.1 (.chan cap (vs.map V).toArray false x.2.1 x.2.2 false))) (c, s, r) H.join
end
def bndI (n : Int) : Int := min (max n 1) 65536
def bnd (n : Int) : Nat := (bndI n).toNat
theorem bnd_eq (n : Int) : ((bnd n : Nat) : Int) = bndI n := by unfold bnd bndI; omega
theorem bnd_in (n : Int) : 1 ≤ bnd n ∧ bnd n ≤ 65536 := by unfold bnd bndI; omega
set_option maxRecDepth 100000 in
theorem bound37 (n : Int) (w : World) : Calls Try.prog 37 #[.int .i64 n] w fun e w' => e = .returned (.int .i64 (bnd n)) ∧ w = w' := by
  rw [bnd_eq]
  unfold bndI
  rcases (by omega : n < 1 ∨ (1 ≤ n ∧ n ≤ 65536) ∨ 65536 < n) with h | ⟨h, h2⟩ | h
  · have e1 : max n 1 = 1 := by omega
    have e2 : min (1 : Int) 65536 = 1 := by omega
    have e3 : decide (n < 1) = true := decide_eq_true h
    have e4 : decide (1 < n) = false := by rw [decide_eq_false_iff_not]; omega
    have e5 : decide (n ≤ 1) = true := by rw [decide_eq_true_eq]; omega
    have f1 : ¬ (1 ≤ n) := by omega
    rw [e1, e2]
    clear h
    go_enter Try.func37, Try.ntmps37
    go_wp2_with fail
    go_ret
    exact ⟨rfl, rfl⟩
  · have e1 : max n 1 = n := by omega
    have e2 : min n 65536 = n := by omega
    have e3 : decide (n < 1) = false := by rw [decide_eq_false_iff_not]; omega
    have e7 : decide (65536 < n) = false := by rw [decide_eq_false_iff_not]; omega
    rw [e1, e2]
    rcases (by omega : n = 1 ∨ n = 65536 ∨ (1 < n ∧ n < 65536)) with h9 | h9 | ⟨h9, h8⟩
    · subst h9
      clear e1 e2 e3 e7 h h2
      go_enter Try.func37, Try.ntmps37
      go_wp2_with fail
      go_ret
      exact ⟨rfl, rfl⟩
    · subst h9
      clear e1 e2 e3 e7 h h2
      go_enter Try.func37, Try.ntmps37
      go_wp2_with fail
      go_ret
      exact ⟨rfl, rfl⟩
    · have e4 : decide (1 < n) = true := decide_eq_true h9
      have e5 : decide (n ≤ 1) = false := by rw [decide_eq_false_iff_not]; omega
      have e6 : decide (n < 65536) = true := decide_eq_true h8
      have e8 : decide (65536 ≤ n) = false := by rw [decide_eq_false_iff_not]; omega
      clear h h2 h9 h8
      go_enter Try.func37, Try.ntmps37
      go_wp2_with fail
      go_ret
      exact ⟨rfl, rfl⟩
  · have e1 : max n 1 = n := by omega
    have e2 : min n 65536 = 65536 := by omega
    have e3 : decide (n < 1) = false := by rw [decide_eq_false_iff_not]; omega
    have e4 : decide (1 < n) = true := by rw [decide_eq_true_eq]; omega
    have e5 : decide (n ≤ 1) = false := by rw [decide_eq_false_iff_not]; omega
    have e6 : decide (n < 65536) = false := by rw [decide_eq_false_iff_not]; omega
    have e7 : decide (65536 < n) = true := decide_eq_true h
    have e8 : decide (65536 ≤ n) = true := by rw [decide_eq_true_eq]; omega
    have f1 : ¬ (n ≤ 65536) := by omega
    rw [e1, e2]
    clear h
    go_enter Try.func37, Try.ntmps37
    go_wp2_with fail
    go_ret
    exact ⟨rfl, rfl⟩
theorem mk9 (n : Nat) (h : n ≤ 65536) (w : World) : (Instr.makeChan 62 (.int .i64 n)).run Try.prog w = .ok (.chan (some w.heap.size)) (w.alloc (.chan n #[] false 0 0 false)) := by
  have h0 : (Try.prog.info? 3).map (·.bytes) = some 8 := by kernel_rfl
  obtain ⟨i, hi, hb⟩ := Option.map_eq_some_iff.1 h0
  exact run_makeChan (P := Try.prog) (w := w) Try.underlying62 hi .i64 n (by omega) (by rw [hb]; omega)
set_option maxRecDepth 100000 in
theorem newtry9 (n : Int) (w w0 : World) (R : List HP) (H : Hs w0 w R) : Calls Try.prog 9 #[.int .i64 n] w fun e w' => ∃ p, e = .returned (.pointer (some ⟨p, 0, none⟩)) ∧ Hs w0 w' (Ty 65 (Value.int .i64) p (bnd n) [] :: R) := by
  obtain ⟨m, hm⟩ : ∃ m, bnd n = m := ⟨_, rfl⟩
  have hm2 := (bnd_in n).2
  have T := bound37 n w
  rw [hm] at T hm2
  rw [hm]
  have hmk := mk9 m hm2
  have K := ((H.alloc (.chan m #[] false 0 0 false)).alloc (.cells #[.chan (some w.heap.size)] 65))
  rw [show (w.alloc (.chan m #[] false 0 0 false)).heap.size = w.heap.size + 1 from Array.size_push ..] at K
  replace K := Lib.hid K
  replace T := Lib.hid T
  clear H hm
  go_enter Try.func9, Try.ntmps9
  go_wp2_with fail
  refine T.out.mono ?_
  rintro e w' ⟨rfl, rfl⟩
  go_wp2_with fail
  go_ret
  exact ⟨_, rfl, Ty.close (c := w.heap.size) (s := 0) (r := 0) K.out⟩
theorem send10 (p cap : Nat) (vs : List Int) (x : Int) (w w0 : World) (R : List HP) (H : Hs w0 w (Ty 65 (Value.int .i64) p cap vs :: R)) :
    Calls Try.prog 10 #[.pointer (some ⟨p, 0, none⟩), Value.int .i64 x] w fun e w' => e = .returned (.bool (decide (vs.length < cap))) ∧ Hs w0 w' (Ty 65 (Value.int .i64) p cap (if vs.length < cap then vs ++ [x] else vs) :: R) := by
  obtain ⟨c, s, r, K⟩ := Ty.open_ H
  by_cases h : vs.length < cap
  · rw [if_pos h, decide_eq_true h]
    refine (sendroom10 p c cap s r _ x w (K.cellOf 0 rfl) K.at1.blk (by simpa using h)).mono ?_
    rintro e w' ⟨rfl, rfl⟩
    refine ⟨rfl, Ty.close (c := c) (s := s + 1) (r := r) ?_⟩
    have h2 := (K.at1.setChan (cap2 := cap) (buf2 := ((vs.map (Value.int .i64)).toArray.push (Value.int .i64 x))) (cl2 := false) (s2 := s + 1) (r2 := r) (tm2 := false)).at1
    rw [show ((vs ++ [x]).map (Value.int .i64)).toArray = (vs.map (Value.int .i64)).toArray.push (Value.int .i64 x) by simp]
    exact h2
  · rw [if_neg h, decide_eq_false h]
    refine (sendfull10 p c cap s r _ x w (K.cellOf 0 rfl) K.at1.blk (by simpa using h)).mono ?_
    rintro e w' ⟨rfl, rfl⟩
    exact ⟨rfl, H⟩
theorem recvN11 (p cap : Nat) (w w0 : World) (R : List HP) (H : Hs w0 w (Ty 65 (Value.int .i64) p cap [] :: R)) :
    Calls Try.prog 11 #[.pointer (some ⟨p, 0, none⟩)] w fun e w' => e = .returned (.tuple #[.int .i64 0, .bool false]) ∧ Hs w0 w' (Ty 65 (Value.int .i64) p cap [] :: R) := by
  obtain ⟨c, s, r, K⟩ := Ty.open_ H
  refine (recvnone11 p c cap s r _ w (K.cellOf 0 rfl) K.at1.blk rfl).mono ?_
  rintro e w' ⟨rfl, rfl⟩
  exact ⟨rfl, H⟩
theorem recvC11 (p cap : Nat) (x : Int) (vs : List Int) (w w0 : World) (R : List HP) (H : Hs w0 w (Ty 65 (Value.int .i64) p cap (x :: vs) :: R)) :
    Calls Try.prog 11 #[.pointer (some ⟨p, 0, none⟩)] w fun e w' => e = .returned (.tuple #[Value.int .i64 x, .bool true]) ∧ Hs w0 w' (Ty 65 (Value.int .i64) p cap vs :: R) := by
  obtain ⟨c, s, r, K⟩ := Ty.open_ H
  refine (recvsome11 p c cap s r _ x w (K.cellOf 0 rfl) K.at1.blk (by simp)).mono ?_
  rintro e w' ⟨rfl, rfl⟩
  refine ⟨rfl, Ty.close (c := c) (s := s) (r := r + 1) ?_⟩
  have h2 := (K.at1.setChan (cap2 := cap) (buf2 := (vs.map (Value.int .i64)).toArray) (cl2 := false) (s2 := s) (r2 := r + 1) (tm2 := false)).at1
  rw [show (((x :: vs).map (Value.int .i64)).toArray.extract 1 ((x :: vs).map (Value.int .i64)).toArray.size) = (vs.map (Value.int .i64)).toArray by simp; exact List.take_of_length_le (by simp)]
  exact h2
set_option maxRecDepth 100000 in
theorem eitherA12 (p q cap cap2 : Nat) (x : Int) (vs us : List Int) (w w0 : World) (R : List HP) (H : Hs w0 w (Ty 65 (Value.int .i64) p cap (x :: vs) :: Ty 65 (Value.int .i64) q cap2 us :: R)) :
    Calls Try.prog 12 #[.pointer (some ⟨p, 0, none⟩), .pointer (some ⟨q, 0, none⟩)] w fun e w' => e = .returned (.tuple #[Value.int .i64 x, .int .i64 0]) ∧ Hs w0 w' (Ty 65 (Value.int .i64) p cap vs :: Ty 65 (Value.int .i64) q cap2 us :: R) := by
  have T := Lib.hid (recvC11 p cap x vs w w0 _ H)
  clear H
  go_enter Try.func12, Try.ntmps12
  go_wp2_with fail
  refine T.out.mono ?_
  rintro e w2 ⟨rfl, K⟩
  replace K := Lib.hid K
  clear T
  go_wp2_with fail
  go_ret2
  exact ⟨rfl, K.out⟩
set_option maxRecDepth 100000 in
theorem eitherB12 (p q cap cap2 : Nat) (y : Int) (us : List Int) (w w0 : World) (R : List HP) (H : Hs w0 w (Ty 65 (Value.int .i64) p cap [] :: Ty 65 (Value.int .i64) q cap2 (y :: us) :: R)) :
    Calls Try.prog 12 #[.pointer (some ⟨p, 0, none⟩), .pointer (some ⟨q, 0, none⟩)] w fun e w' => e = .returned (.tuple #[Value.int .i64 y, .int .i64 1]) ∧ Hs w0 w' (Ty 65 (Value.int .i64) p cap [] :: Ty 65 (Value.int .i64) q cap2 us :: R) := by
  have T := Lib.hid (recvN11 p cap w w0 _ H)
  clear H
  go_enter Try.func12, Try.ntmps12
  go_wp2_with fail
  refine T.out.mono ?_
  rintro e w2 ⟨rfl, K⟩
  have T2 := Lib.hid (recvC11 q cap2 y us w2 w0 _ K.at1)
  clear T K
  go_wp2_with fail
  refine T2.out.mono ?_
  rintro e w3 ⟨rfl, K⟩
  replace K := Lib.hid K
  clear T2
  go_wp2_with fail
  go_ret2
  exact ⟨rfl, K.out.at1⟩
set_option maxRecDepth 100000 in
theorem eitherN12 (p q cap cap2 : Nat) (w w0 : World) (R : List HP) (H : Hs w0 w (Ty 65 (Value.int .i64) p cap [] :: Ty 65 (Value.int .i64) q cap2 [] :: R)) :
    Calls Try.prog 12 #[.pointer (some ⟨p, 0, none⟩), .pointer (some ⟨q, 0, none⟩)] w fun e w' => e = .returned (.tuple #[.int .i64 0, .int .i64 (-1)]) ∧ Hs w0 w' (Ty 65 (Value.int .i64) p cap [] :: Ty 65 (Value.int .i64) q cap2 [] :: R) := by
  have T := Lib.hid (recvN11 p cap w w0 _ H)
  clear H
  go_enter Try.func12, Try.ntmps12
  go_wp2_with fail
  refine T.out.mono ?_
  rintro e w2 ⟨rfl, K⟩
  have T2 := Lib.hid (recvN11 q cap2 w2 w0 _ K.at1)
  clear T K
  go_wp2_with fail
  refine T2.out.mono ?_
  rintro e w3 ⟨rfl, K⟩
  replace K := Lib.hid K
  clear T2
  go_wp2_with fail
  go_ret2
  exact ⟨rfl, K.out.at1⟩
theorem mk34 (n : Nat) (h : n ≤ 65536) (w : World) : (Instr.makeChan 80 (.int .i64 n)).run Try.prog w = .ok (.chan (some w.heap.size)) (w.alloc (.chan n #[] false 0 0 false)) := by
  have h0 : (Try.prog.info? 9).map (·.bytes) = some 16 := by kernel_rfl
  obtain ⟨i, hi, hb⟩ := Option.map_eq_some_iff.1 h0
  exact run_makeChan (P := Try.prog) (w := w) Try.underlying80 hi .i64 n (by omega) (by rw [hb]; omega)
set_option maxRecDepth 100000 in
theorem newtry34 (n : Int) (w w0 : World) (R : List HP) (H : Hs w0 w R) : Calls Try.prog 34 #[.int .i64 n] w fun e w' => ∃ p, e = .returned (.pointer (some ⟨p, 0, none⟩)) ∧ Hs w0 w' (Ty 82 (Value.string) p (bnd n) [] :: R) := by
  obtain ⟨m, hm⟩ : ∃ m, bnd n = m := ⟨_, rfl⟩
  have hm2 := (bnd_in n).2
  have T := bound37 n w
  rw [hm] at T hm2
  rw [hm]
  have hmk := mk34 m hm2
  have K := ((H.alloc (.chan m #[] false 0 0 false)).alloc (.cells #[.chan (some w.heap.size)] 82))
  rw [show (w.alloc (.chan m #[] false 0 0 false)).heap.size = w.heap.size + 1 from Array.size_push ..] at K
  replace K := Lib.hid K
  replace T := Lib.hid T
  clear H hm
  go_enter Try.func34, Try.ntmps34
  go_wp2_with fail
  refine T.out.mono ?_
  rintro e w' ⟨rfl, rfl⟩
  go_wp2_with fail
  go_ret
  exact ⟨_, rfl, Ty.close (c := w.heap.size) (s := 0) (r := 0) K.out⟩
theorem send35 (p cap : Nat) (vs : List ByteArray) (x : ByteArray) (w w0 : World) (R : List HP) (H : Hs w0 w (Ty 82 (Value.string) p cap vs :: R)) :
    Calls Try.prog 35 #[.pointer (some ⟨p, 0, none⟩), Value.string x] w fun e w' => e = .returned (.bool (decide (vs.length < cap))) ∧ Hs w0 w' (Ty 82 (Value.string) p cap (if vs.length < cap then vs ++ [x] else vs) :: R) := by
  obtain ⟨c, s, r, K⟩ := Ty.open_ H
  by_cases h : vs.length < cap
  · rw [if_pos h, decide_eq_true h]
    refine (sendroom35 p c cap s r _ x w (K.cellOf 0 rfl) K.at1.blk (by simpa using h)).mono ?_
    rintro e w' ⟨rfl, rfl⟩
    refine ⟨rfl, Ty.close (c := c) (s := s + 1) (r := r) ?_⟩
    have h2 := (K.at1.setChan (cap2 := cap) (buf2 := ((vs.map (Value.string)).toArray.push (Value.string x))) (cl2 := false) (s2 := s + 1) (r2 := r) (tm2 := false)).at1
    rw [show ((vs ++ [x]).map (Value.string)).toArray = (vs.map (Value.string)).toArray.push (Value.string x) by simp]
    exact h2
  · rw [if_neg h, decide_eq_false h]
    refine (sendfull35 p c cap s r _ x w (K.cellOf 0 rfl) K.at1.blk (by simpa using h)).mono ?_
    rintro e w' ⟨rfl, rfl⟩
    exact ⟨rfl, H⟩
theorem recvN45 (p cap : Nat) (w w0 : World) (R : List HP) (H : Hs w0 w (Ty 82 (Value.string) p cap [] :: R)) :
    Calls Try.prog 45 #[.pointer (some ⟨p, 0, none⟩)] w fun e w' => e = .returned (.tuple #[.string ⟨#[]⟩, .bool false]) ∧ Hs w0 w' (Ty 82 (Value.string) p cap [] :: R) := by
  obtain ⟨c, s, r, K⟩ := Ty.open_ H
  refine (recvnone45 p c cap s r _ w (K.cellOf 0 rfl) K.at1.blk rfl).mono ?_
  rintro e w' ⟨rfl, rfl⟩
  exact ⟨rfl, H⟩
theorem recvC45 (p cap : Nat) (x : ByteArray) (vs : List ByteArray) (w w0 : World) (R : List HP) (H : Hs w0 w (Ty 82 (Value.string) p cap (x :: vs) :: R)) :
    Calls Try.prog 45 #[.pointer (some ⟨p, 0, none⟩)] w fun e w' => e = .returned (.tuple #[Value.string x, .bool true]) ∧ Hs w0 w' (Ty 82 (Value.string) p cap vs :: R) := by
  obtain ⟨c, s, r, K⟩ := Ty.open_ H
  refine (recvsome45 p c cap s r _ x w (K.cellOf 0 rfl) K.at1.blk (by simp)).mono ?_
  rintro e w' ⟨rfl, rfl⟩
  refine ⟨rfl, Ty.close (c := c) (s := s) (r := r + 1) ?_⟩
  have h2 := (K.at1.setChan (cap2 := cap) (buf2 := (vs.map (Value.string)).toArray) (cl2 := false) (s2 := s) (r2 := r + 1) (tm2 := false)).at1
  rw [show (((x :: vs).map (Value.string)).toArray.extract 1 ((x :: vs).map (Value.string)).toArray.size) = (vs.map (Value.string)).toArray by simp; exact List.take_of_length_le (by simp)]
  exact h2
set_option maxRecDepth 100000 in
theorem eitherA36 (p q cap cap2 : Nat) (x : ByteArray) (vs us : List ByteArray) (w w0 : World) (R : List HP) (H : Hs w0 w (Ty 82 (Value.string) p cap (x :: vs) :: Ty 82 (Value.string) q cap2 us :: R)) :
    Calls Try.prog 36 #[.pointer (some ⟨p, 0, none⟩), .pointer (some ⟨q, 0, none⟩)] w fun e w' => e = .returned (.tuple #[Value.string x, .int .i64 0]) ∧ Hs w0 w' (Ty 82 (Value.string) p cap vs :: Ty 82 (Value.string) q cap2 us :: R) := by
  have T := Lib.hid (recvC45 p cap x vs w w0 _ H)
  clear H
  go_enter Try.func36, Try.ntmps36
  go_wp2_with fail
  refine T.out.mono ?_
  rintro e w2 ⟨rfl, K⟩
  replace K := Lib.hid K
  clear T
  go_wp2_with fail
  go_ret2
  exact ⟨rfl, K.out⟩
set_option maxRecDepth 100000 in
theorem eitherB36 (p q cap cap2 : Nat) (y : ByteArray) (us : List ByteArray) (w w0 : World) (R : List HP) (H : Hs w0 w (Ty 82 (Value.string) p cap [] :: Ty 82 (Value.string) q cap2 (y :: us) :: R)) :
    Calls Try.prog 36 #[.pointer (some ⟨p, 0, none⟩), .pointer (some ⟨q, 0, none⟩)] w fun e w' => e = .returned (.tuple #[Value.string y, .int .i64 1]) ∧ Hs w0 w' (Ty 82 (Value.string) p cap [] :: Ty 82 (Value.string) q cap2 us :: R) := by
  have T := Lib.hid (recvN45 p cap w w0 _ H)
  clear H
  go_enter Try.func36, Try.ntmps36
  go_wp2_with fail
  refine T.out.mono ?_
  rintro e w2 ⟨rfl, K⟩
  have T2 := Lib.hid (recvC45 q cap2 y us w2 w0 _ K.at1)
  clear T K
  go_wp2_with fail
  refine T2.out.mono ?_
  rintro e w3 ⟨rfl, K⟩
  replace K := Lib.hid K
  clear T2
  go_wp2_with fail
  go_ret2
  exact ⟨rfl, K.out.at1⟩
set_option maxRecDepth 100000 in
theorem eitherN36 (p q cap cap2 : Nat) (w w0 : World) (R : List HP) (H : Hs w0 w (Ty 82 (Value.string) p cap [] :: Ty 82 (Value.string) q cap2 [] :: R)) :
    Calls Try.prog 36 #[.pointer (some ⟨p, 0, none⟩), .pointer (some ⟨q, 0, none⟩)] w fun e w' => e = .returned (.tuple #[.string ⟨#[]⟩, .int .i64 (-1)]) ∧ Hs w0 w' (Ty 82 (Value.string) p cap [] :: Ty 82 (Value.string) q cap2 [] :: R) := by
  have T := Lib.hid (recvN45 p cap w w0 _ H)
  clear H
  go_enter Try.func36, Try.ntmps36
  go_wp2_with fail
  refine T.out.mono ?_
  rintro e w2 ⟨rfl, K⟩
  have T2 := Lib.hid (recvN45 q cap2 w2 w0 _ K.at1)
  clear T K
  go_wp2_with fail
  refine T2.out.mono ?_
  rintro e w3 ⟨rfl, K⟩
  replace K := Lib.hid K
  clear T2
  go_wp2_with fail
  go_ret2
  exact ⟨rfl, K.out.at1⟩
end Go.Proofs.Ytlpcofjmleghdaa

import Derived.Test.YtjlonfldcmcchaaMp
import Derived.Test.YtjlonfldcmcchaaOw
import Derived.Test.YtjlonfldcmcchaaProg
import Derived.Test.YtjlonfldcmcchaaLs
import Derived.Outline
import Derived.StillTailTactics
import Derived.Deep.DeepCutAuto
import Derived.Deep.CutBlock
import Derived.Deep.LoopGhost
import Derived.Deep.QuietTactic
import Derived.BigQuiet
import Derived.Deep.RegionHeld3
import Derived.Deep.RegionLaw
set_option linter.unusedVariables false
set_option linter.unusedSimpArgs false
namespace Go.Proofs.Ytjlonfldcmcchaa
open Go.RowKit
abbrev Rec := Int × Int × Int
abbrev ERec : Enc Rec := (Enc.num .i64).pair ((Enc.num .i64).pair (Enc.num .i64))
abbrev ETx : Enc (Int × Slc) := (Enc.num .u64).pair Enc.slc
/-- A part: its transactions, so many of them committed. -/
structure Pt where (l : List (Int × List Rec)) (dn : Nat)
/-- A log. -/
structure Lg where (pt : Int → Pt) (all : List Rec)
def upd (f : Int → Pt) (n : Int) (q : Pt) : Int → Pt := fun m => if m = n then q else f m
/-- The transactions' records. -/
def TxS : List (Int × Slc) → List (Int × List Rec) → HP
  | [], [] => fun _ => True
  | v :: vs, x :: xs => Star (Pu (v.1 = x.1) (Ls ERec 39 (.slice v.2.1 v.2.2.1 v.2.2.2) x.2)) (TxS vs xs)
  | _, _ => fun _ => False
section
variable {w0 w : World} {R : List HP}
theorem TxS.len : ∀ (vs : List (Int × Slc)) (xs : List (Int × List Rec)) {w0 w : World} {R : List HP}, Hs w0 w (TxS vs xs :: R) → vs.length = xs.length
  | [], [], _, _, _, _ => rfl
  | [], _ :: _, _, _, _, H => by obtain ⟨_, _, h⟩ := H.get; exact h.elim
  | _ :: _, [], _, _, _, H => by obtain ⟨_, _, h⟩ := H.get; exact h.elim
  | v :: vs, x :: xs, _, _, _, H => by
    have h := Hs.part (A := Pu (v.1 = x.1) (Ls ERec 39 (.slice v.2.1 v.2.2.1 v.2.2.2) x.2)) (B := TxS vs xs) H
    rw [List.length_cons, List.length_cons, TxS.len vs xs h.tail]
theorem TxS.get : ∀ (vs : List (Int × Slc)) (xs : List (Int × List Rec)) (k : Nat) (x : Int × List Rec) {w0 w : World} {R : List HP}, Hs w0 w (TxS vs xs :: R) → xs[k]? = some x →
    ∃ A c, vs[k]? = some (x.1, A, x.2.length, c) ∧ RdL ERec w (.slice A x.2.length c) x.2
  | _, [], _, _, _, _, _, _, h => by simp at h
  | [], _ :: _, _, _, _, _, _, H, _ => by obtain ⟨_, _, h⟩ := H.get; exact h.elim
  | v :: vs, x :: xs, k, y, _, _, _, H, hk => by
    have h := Hs.part (A := Pu (v.1 = x.1) (Ls ERec 39 (.slice v.2.1 v.2.2.1 v.2.2.2) x.2)) (B := TxS vs xs) H
    cases k with
    | zero =>
      simp only [List.getElem?_cons_zero, Option.some.injEq] at hk
      subst hk
      obtain ⟨h1, h2⟩ := h.pu
      have hr := h2.ls_rd
      obtain ⟨e, _⟩ := hr.caps
      refine ⟨v.2.1, v.2.2.2, ?_, by rw [← e]; exact hr⟩
      rw [← h1, ← e]
      rfl
    | succ k =>
      simp only [List.getElem?_cons_succ] at hk ⊢
      exact TxS.get vs xs k y h.tail hk
theorem TxS.nil : Hs w0 w R → Hs w0 w (TxS [] [] :: R) := fun H => by
  obtain ⟨h, hs, hL⟩ := H.heap
  refine ⟨H.os, H.tape, H.output, h, hs, fun _ => none, h, fun _ => .inl rfl, ?_, trivial, hL⟩
  funext k
  simp [Un]
theorem TxS.snoc_ : ∀ (vs : List (Int × Slc)) (xs : List (Int × List Rec)) (n : Int) (s : Slc) (r : List Rec) (h : Hp), Star (Ls ERec 39 (.slice s.1 s.2.1 s.2.2) r) (TxS vs xs) h → TxS (vs ++ [(n, s)]) (xs ++ [(n, r)]) h
  | [], [], n, s, r, h, hh => by
    show Star (Pu (n = n) _) (TxS [] []) h
    exact Star.mono (fun _ h => ⟨rfl, h⟩) (fun _ h => h) hh
  | [], _ :: _, _, _, _, _, ⟨_, _, _, _, _, hh⟩ => hh.elim
  | _ :: _, [], _, _, _, _, ⟨_, _, _, _, _, hh⟩ => hh.elim
  | v :: vs, x :: xs, n, s, r, h, hh => by
    show Star (Pu (v.1 = x.1) (Ls ERec 39 (.slice v.2.1 v.2.2.1 v.2.2.2) x.2)) (TxS (vs ++ [(n, s)]) (xs ++ [(n, r)])) h
    have hh : Star (Ls ERec 39 (.slice s.1 s.2.1 s.2.2) r) (Star (Pu (v.1 = x.1) (Ls ERec 39 (.slice v.2.1 v.2.2.1 v.2.2.2) x.2)) (TxS vs xs)) h := hh
    rw [Star.left_comm] at hh
    exact Star.mono (fun _ h => h) (fun h h' => TxS.snoc_ vs xs n s r h h') hh
theorem TxS.snoc (vs : List (Int × Slc)) (xs : List (Int × List Rec)) (n : Int) (A : Option Addr) (m c : Nat) (r : List Rec) (H : Hs w0 w (Ls ERec 39 (.slice A m c) r :: TxS vs xs :: R)) : Hs w0 w (TxS (vs ++ [(n, A, m, c)]) (xs ++ [(n, r)]) :: R) :=
  H.join.mono fun h hh => TxS.snoc_ vs xs n (A, m, c) r h hh
theorem TxS.take_ : ∀ (vs : List (Int × Slc)) (xs : List (Int × List Rec)) (k : Nat) {w0 w : World} {R : List HP}, Hs w0 w (TxS vs xs :: R) → Hs w0 w (TxS (vs.take k) (xs.take k) :: R)
  | [], [], k, _, _, _, H => by simpa using H
  | [], _ :: _, _, _, _, _, H => by obtain ⟨_, _, h⟩ := H.get; exact h.elim
  | _ :: _, [], _, _, _, _, H => by obtain ⟨_, _, h⟩ := H.get; exact h.elim
  | v :: vs, x :: xs, 0, _, _, _, H => TxS.nil H.tail
  | v :: vs, x :: xs, k + 1, _, _, _, H => by
    have h := Hs.part (A := Pu (v.1 = x.1) (Ls ERec 39 (.slice v.2.1 v.2.2.1 v.2.2.2) x.2)) (B := TxS vs xs) H
    exact Hs.join (A := Pu (v.1 = x.1) (Ls ERec 39 (.slice v.2.1 v.2.2.1 v.2.2.2) x.2)) (B := TxS (vs.take k) (xs.take k)) (TxS.take_ vs xs k h.at1).at1
/-- A part at block p. -/
def Part (p : Nat) (s : Pt) : HP := Ex fun v => Ex fun vs => Star (Blk p (.cells #[v, .int .i64 s.dn] 66 (0, 0))) (Star (Ls ETx 68 v vs) (TxS vs s.l))
theorem Part.open_ {p : Nat} {s : Pt} (H : Hs w0 w (Part p s :: R)) : ∃ A c vs, vs.length = s.l.length ∧ Hs w0 w (Blk p (.cells #[.slice A s.l.length c, .int .i64 s.dn] 66 (0, 0)) :: Ls ETx 68 (.slice A s.l.length c) vs :: TxS vs s.l :: R) := by
  obtain ⟨v, H⟩ := H.ex
  obtain ⟨vs, H⟩ := H.ex
  have H := H.part.at1.part
  obtain ⟨A, c, rfl⟩ := H.ls_form
  have hl := TxS.len _ _ H.at1
  rw [hl] at H
  exact ⟨A, c, vs, hl, H.at2⟩
theorem Part.mk_ {p : Nat} {s : Pt} {v : Value} {vs : List (Int × Slc)} (H : Hs w0 w (Blk p (.cells #[v, .int .i64 s.dn] 66 (0, 0)) :: Ls ETx 68 v vs :: TxS vs s.l :: R)) : Hs w0 w (Part p s :: R) :=
  H.at2.at2.join.at1.join.mono fun h hh => ⟨_, _, hh⟩
/-- The parts. -/
def PS : List (Int × Nat) → (Int → Pt) → HP
  | [], _ => fun _ => True
  | x :: r, f => Star (Part x.2 (f x.1)) (PS r f)
theorem PS.congr : ∀ (ps : List (Int × Nat)) (f g : Int → Pt), (∀ x ∈ ps, f x.1 = g x.1) → PS ps f = PS ps g
  | [], _, _, _ => rfl
  | x :: r, f, g, h => by
    show Star (Part x.2 (f x.1)) (PS r f) = Star (Part x.2 (g x.1)) (PS r g)
    rw [h x (by simp), PS.congr r f g fun y hy => h y (by simp [hy])]
def ptrs (ps : List (Int × Nat)) : List (Int × Value) := ps.map fun x => (x.1, .pointer (some ⟨x.2, 0, none⟩))
theorem ptrs_get : ∀ (ps : List (Int × Nat)) (n : Int), (mpGet (ptrs ps) n = none ∧ ∀ x ∈ ps, x.1 ≠ n) ∨ ∃ p, mpGet (ptrs ps) n = some (.pointer (some ⟨p, 0, none⟩)) ∧ (n, p) ∈ ps
  | [], n => .inl ⟨rfl, by simp⟩
  | x :: r, n => by
    by_cases h : x.1 = n
    · subst h
      exact .inr ⟨x.2, by simp [ptrs, mpGet], by simp⟩
    · rcases ptrs_get r n with ⟨h1, h2⟩ | ⟨p, h1, h2⟩
      · refine .inl ⟨by simpa [ptrs, mpGet, h] using h1, fun y hy => ?_⟩
        rcases List.mem_cons.1 hy with rfl | hy
        · exact h
        · exact h2 y hy
      · exact .inr ⟨p, by simpa [ptrs, mpGet, h] using h1, by simp [h2]⟩
theorem ptrs_put_old : ∀ (ps : List (Int × Nat)) (n : Int) (p : Nat), mpGet (ptrs ps) n = some (.pointer (some ⟨p, 0, none⟩)) → mpPut (ptrs ps) n (.pointer (some ⟨p, 0, none⟩)) = ptrs ps
  | [], n, p, h => by simp [ptrs, mpGet] at h
  | x :: r, n, p, h => by
    by_cases e : x.1 = n
    · simp [ptrs, mpGet, e] at h
      simp [ptrs, mpPut, e, h]
    · simp only [ptrs, List.map_cons, mpGet, if_neg e] at h
      simp only [ptrs, List.map_cons, mpPut, if_neg e]
      exact congrArg (List.cons _) (ptrs_put_old r n p h)
theorem ptrs_put_new : ∀ (ps : List (Int × Nat)) (n : Int) (p : Nat), (∀ x ∈ ps, x.1 ≠ n) → mpPut (ptrs ps) n (.pointer (some ⟨p, 0, none⟩)) = ptrs (ps ++ [(n, p)])
  | [], n, p, h => rfl
  | x :: r, n, p, h => by
    have e := h x (by simp)
    simp only [ptrs, List.map_cons, mpPut, if_neg e, List.cons_append, List.cons.injEq, true_and]
    exact ptrs_put_new r n p fun y hy => h y (by simp [hy])
/-- One part out of all. -/
theorem PS.focus : ∀ (ps : List (Int × Nat)) (f : Int → Pt) (n : Int) (p : Nat), (ps.map (·.1)).Nodup → (n, p) ∈ ps →
    ∃ Q : HP, (∀ {w0 w : World} {R : List HP}, Hs w0 w (PS ps f :: R) → Hs w0 w (Part p (f n) :: Q :: R)) ∧ ∀ (q : Pt) {w0 w : World} {R : List HP}, Hs w0 w (Part p q :: Q :: R) → Hs w0 w (PS ps (upd f n q) :: R)
  | [], _, _, _, _, h => by simp at h
  | x :: r, f, n, p, hn, h => by
    simp only [List.map_cons, List.nodup_cons] at hn
    by_cases e : (n, p) = x
    · subst e
      refine ⟨PS r f, fun H => H.part, fun q w0 w R H => ?_⟩
      have : PS r f = PS r (upd f n q) := PS.congr _ _ _ fun y hy => by
        have : y.1 ≠ n := fun e => hn.1 (by rw [← e]; exact List.mem_map_of_mem (f := (·.1)) hy)
        simp [upd, this]
      rw [this] at H
      have hq : upd f n q n = q := by simp [upd]
      show Hs w0 w (Star (Part p (upd f n q n)) (PS r (upd f n q)) :: R)
      rw [hq]
      exact H.join
    · have hm : (n, p) ∈ r := by
        rcases List.mem_cons.1 h with h | h
        · exact absurd h e
        · exact h
      have hne : x.1 ≠ n := fun e => hn.1 (by rw [e]; exact List.mem_map_of_mem (f := (·.1)) hm)
      obtain ⟨Q, h1, h2⟩ := PS.focus r f n p hn.2 hm
      refine ⟨Star (Part x.2 (f x.1)) Q, fun H => ?_, fun q w0 w R H => ?_⟩
      · exact (h1 (Hs.part (A := Part x.2 (f x.1)) (B := PS r f) H).at1).at2.at2.at1.join.at1
      · have H := (h2 q H.at1.part.at1.at2).at1
        have hf : upd f n q x.1 = f x.1 := by simp [upd, hne]
        show Hs w0 w (Star (Part x.2 (upd f n q x.1)) (PS r (upd f n q)) :: R)
        rw [hf]
        exact H.join
/-- A log at block p. -/
def Log (p : Nat) (s : Lg) : HP := Ex fun m => Ex fun v => Ex fun ps : List (Int × Nat) => Pu ((ps.map (·.1)).Nodup ∧ ∀ n, (∀ x ∈ ps, x.1 ≠ n) → s.pt n = ⟨[], 0⟩)
  (Star (Blk p (.cells #[.map (some m), v] 61 (0, 0))) (Star (Mp .i64 m (ptrs ps)) (Star (Ls ERec 39 v s.all) (PS ps s.pt))))
theorem Log.open_ {p : Nat} {s : Lg} (H : Hs w0 w (Log p s :: R)) : ∃ m A c ps, ((ps.map (·.1)).Nodup ∧ ∀ n, (∀ x ∈ ps, x.1 ≠ n) → s.pt n = ⟨[], 0⟩) ∧
    Hs w0 w (Blk p (.cells #[.map (some m), .slice A s.all.length c] 61 (0, 0)) :: Mp .i64 m (ptrs ps) :: Ls ERec 39 (.slice A s.all.length c) s.all :: PS ps s.pt :: R) := by
  obtain ⟨m, H⟩ := H.ex
  obtain ⟨v, H⟩ := H.ex
  obtain ⟨ps, H⟩ := H.ex
  obtain ⟨hp, H⟩ := H.pu
  have H := H.part.at1.part.at1.part
  obtain ⟨A, c, rfl⟩ := H.ls_form
  exact ⟨m, A, c, ps, hp, H.at2.at3⟩
theorem Log.mk_ {p m : Nat} {s : Lg} {v : Value} {ps : List (Int × Nat)} (hp : (ps.map (·.1)).Nodup ∧ ∀ n, (∀ x ∈ ps, x.1 ≠ n) → s.pt n = ⟨[], 0⟩)
    (H : Hs w0 w (Blk p (.cells #[.map (some m), v] 61 (0, 0)) :: Mp .i64 m (ptrs ps) :: Ls ERec 39 v s.all :: PS ps s.pt :: R)) : Hs w0 w (Log p s :: R) := by
  have H : Hs w0 w (Star _ (Star _ (Star _ _)) :: R) := H.at3.at3.join.at2.join.at1.join
  exact H.mono fun h hh => ⟨m, v, ps, hp, hh⟩
end
end Go.Proofs.Ytjlonfldcmcchaa

/-
  Heaps in parts: what a call owns, list-wise ('Hs w0 w [P, Q, ..]': P, Q, .. hold of parts of w's heap that don't overlap; os, tape and output are w0's). No program in sight.
-/
import Derived.WalkKit
import Derived.ProofKit
import Derived.Deep.Draws
import Derived.Below
import Derived.Laws.CopyRow
import Derived.Laws.Rows
import Derived.Lib.Hide
set_option linter.unusedVariables false
set_option linter.unusedSimpArgs false
namespace Go.Proofs.Ytlpcofjmleghdaa
open Go.RowKit

/-! ### 1. Assertions on parts of a heap -/
abbrev Hp := Nat → Option Obj
abbrev HP := Hp → Prop
def Dj (h1 h2 : Hp) : Prop := ∀ k, h1 k = none ∨ h2 k = none
def Un (h1 h2 : Hp) : Hp := fun k => (h1 k).or (h2 k)
def Star (P Q : HP) : HP := fun h => ∃ h1 h2, Dj h1 h2 ∧ h = Un h1 h2 ∧ P h1 ∧ Q h2
def Sep : List HP → HP
  | [] => fun _ => True
  | P :: L => Star P (Sep L)
theorem Dj.symm {h1 h2 : Hp} (h : Dj h1 h2) : Dj h2 h1 := fun k => (h k).symm
theorem Un.comm {h1 h2 : Hp} (h : Dj h1 h2) : Un h1 h2 = Un h2 h1 := by
  funext k
  unfold Un
  rcases h k with e | e <;> rw [e] <;> simp
theorem Un.assoc (h1 h2 h3 : Hp) : Un (Un h1 h2) h3 = Un h1 (Un h2 h3) := by
  funext k
  unfold Un
  cases h1 k <;> simp
theorem Dj.un {h1 h2 h3 : Hp} : Dj (Un h1 h2) h3 ↔ Dj h1 h3 ∧ Dj h2 h3 := by
  unfold Dj Un
  constructor
  · intro h
    refine ⟨fun k => ?_, fun k => ?_⟩
    · rcases h k with e | e
      · rw [Option.or_eq_none_iff] at e; exact .inl e.1
      · exact .inr e
    · rcases h k with e | e
      · rw [Option.or_eq_none_iff] at e; exact .inl e.2
      · exact .inr e
  · rintro ⟨h, g⟩ k
    rcases h k with e | e
    · rcases g k with e' | e'
      · left; simp [e, e']
      · exact .inr e'
    · exact .inr e
theorem Star.comm {P Q : HP} : Star P Q = Star Q P := by
  funext h
  refine propext ⟨?_, ?_⟩ <;> (rintro ⟨h1, h2, hd, rfl, hp, hq⟩; exact ⟨h2, h1, hd.symm, Un.comm hd, hq, hp⟩)
theorem Star.assoc {P Q R : HP} : Star (Star P Q) R = Star P (Star Q R) := by
  funext h
  refine propext ⟨?_, ?_⟩
  · rintro ⟨h12, h3, hd, rfl, ⟨h1, h2, hd', rfl, hp, hq⟩, hr⟩
    obtain ⟨a, b⟩ := Dj.un.1 hd
    exact ⟨h1, Un h2 h3, (Dj.un.2 ⟨hd'.symm, a.symm⟩).symm, Un.assoc .., hp, h2, h3, b, rfl, hq, hr⟩
  · rintro ⟨h1, h23, hd, rfl, hp, h2, h3, hd', rfl, hq, hr⟩
    obtain ⟨a, b⟩ := Dj.un.1 hd.symm
    exact ⟨Un h1 h2, h3, Dj.un.2 ⟨b.symm, hd'⟩, (Un.assoc ..).symm, ⟨h1, h2, a.symm, rfl, hp, hq⟩, hr⟩
theorem Star.left_comm {P Q R : HP} : Star P (Star Q R) = Star Q (Star P R) := by
  rw [← Star.assoc, Star.comm (P := P), Star.assoc]
theorem Star.mono {P P' Q Q' : HP} (hp : ∀ h, P h → P' h) (hq : ∀ h, Q h → Q' h) {h : Hp} (H : Star P Q h) : Star P' Q' h := by
  obtain ⟨h1, h2, hd, e, a, b⟩ := H
  exact ⟨h1, h2, hd, e, hp _ a, hq _ b⟩

/-- What is owned of w, os, tape and output being w0's. -/
structure Hs (w0 w : World) (L : List HP) : Prop where
  os : w.os = w0.os
  tape : w.tape = w0.tape
  output : w.output = w0.output
  heap : ∃ h : Hp, (∀ k o, h k = some o → w.heap[k]? = some o) ∧ Sep L h

section
variable {w0 w w' : World} {P Q A B C D E F G : HP} {R L : List HP}
theorem Hs.conseq (H : Hs w0 w L) {L' : List HP} (hq : ∀ h, Sep L h → Sep L' h) : Hs w0 w L' :=
  ⟨H.os, H.tape, H.output, let ⟨h, a, b⟩ := H.heap; ⟨h, a, hq h b⟩⟩
theorem Hs.mono (H : Hs w0 w (P :: R)) (hq : ∀ h, P h → Q h) : Hs w0 w (Q :: R) :=
  H.conseq fun _ => Star.mono hq fun _ h => h
theorem Hs.swap (H : Hs w0 w (A :: B :: R)) : Hs w0 w (B :: A :: R) := H.conseq fun h hh => by
  show Star B (Star A (Sep R)) h
  rw [Star.left_comm]
  exact hh
theorem Hs.tail (H : Hs w0 w (A :: R)) : Hs w0 w R := by
  obtain ⟨h, hs, h1, h2, hd, rfl, ha, hr⟩ := H.heap
  refine ⟨H.os, H.tape, H.output, h2, fun k o hk => hs k o ?_, hr⟩
  unfold Un
  rcases hd k with e | e
  · rw [e]; simpa using hk
  · rw [e] at hk; cases hk
theorem Hs.under (H : Hs w0 w (A :: L)) (f : Hs w0 w L → ∀ h, Sep L h → Sep R h) : Hs w0 w (A :: R) := by
  have H' := H.tail
  exact H.conseq fun _ => Star.mono (fun _ h => h) (f H')
/-- The k-th comes first. -/
theorem Hs.at1 (H : Hs w0 w (A :: P :: R)) : Hs w0 w (P :: A :: R) := H.swap
theorem Sep.swap {h : Hp} (H : Sep (A :: B :: R) h) : Sep (B :: A :: R) h := by
  show Star B (Star A (Sep R)) h
  rw [Star.left_comm]
  exact H
theorem Sep.cons {h : Hp} {L' : List HP} (f : ∀ h, Sep L h → Sep L' h) (H : Sep (A :: L) h) : Sep (A :: L') h := Star.mono (fun _ h => h) f H
theorem Sep.at1 {h : Hp} (H : Sep (A :: P :: R) h) : Sep (P :: A :: R) h := Sep.swap H
theorem Sep.at2 {h : Hp} (H : Sep (A :: B :: P :: R) h) : Sep (P :: A :: B :: R) h := Sep.swap (Sep.cons (fun _ => Sep.at1) H)
theorem Sep.at3 {h : Hp} (H : Sep (A :: B :: C :: P :: R) h) : Sep (P :: A :: B :: C :: R) h := Sep.swap (Sep.cons (fun _ => Sep.at2) H)
theorem Sep.at4 {h : Hp} (H : Sep (A :: B :: C :: D :: P :: R) h) : Sep (P :: A :: B :: C :: D :: R) h := Sep.swap (Sep.cons (fun _ => Sep.at3) H)
theorem Sep.at5 {h : Hp} (H : Sep (A :: B :: C :: D :: E :: P :: R) h) : Sep (P :: A :: B :: C :: D :: E :: R) h := Sep.swap (Sep.cons (fun _ => Sep.at4) H)
theorem Sep.at6 {h : Hp} (H : Sep (A :: B :: C :: D :: E :: F :: P :: R) h) : Sep (P :: A :: B :: C :: D :: E :: F :: R) h := Sep.swap (Sep.cons (fun _ => Sep.at5) H)
theorem Sep.at7 {h : Hp} (H : Sep (A :: B :: C :: D :: E :: F :: G :: P :: R) h) : Sep (P :: A :: B :: C :: D :: E :: F :: G :: R) h := Sep.swap (Sep.cons (fun _ => Sep.at6) H)
theorem Hs.at2 (H : Hs w0 w (A :: B :: P :: R)) : Hs w0 w (P :: A :: B :: R) := H.conseq fun _ => Sep.at2
theorem Hs.at3 (H : Hs w0 w (A :: B :: C :: P :: R)) : Hs w0 w (P :: A :: B :: C :: R) := H.conseq fun _ => Sep.at3
theorem Hs.at4 (H : Hs w0 w (A :: B :: C :: D :: P :: R)) : Hs w0 w (P :: A :: B :: C :: D :: R) := H.conseq fun _ => Sep.at4
theorem Hs.at5 (H : Hs w0 w (A :: B :: C :: D :: E :: P :: R)) : Hs w0 w (P :: A :: B :: C :: D :: E :: R) := H.conseq fun _ => Sep.at5
theorem Hs.at6 (H : Hs w0 w (A :: B :: C :: D :: E :: F :: P :: R)) : Hs w0 w (P :: A :: B :: C :: D :: E :: F :: R) := H.conseq fun _ => Sep.at6
theorem Hs.at7 (H : Hs w0 w (A :: B :: C :: D :: E :: F :: G :: P :: R)) : Hs w0 w (P :: A :: B :: C :: D :: E :: F :: G :: R) := H.conseq fun _ => Sep.at7
/-- Two in one, and apart. -/
theorem Hs.join (H : Hs w0 w (A :: B :: R)) : Hs w0 w (Star A B :: R) := H.conseq fun h hh => by
  show Star (Star A B) (Sep R) h
  rw [Star.assoc]
  exact hh
theorem Hs.part (H : Hs w0 w (Star A B :: R)) : Hs w0 w (A :: B :: R) := H.conseq fun h hh => by
  show Star A (Star B (Sep R)) h
  rw [← Star.assoc]
  exact hh
theorem Hs.drop (H : Hs w0 w (A :: R)) : Hs w0 w R := H.tail
/-- A claim of its own kept in a part. -/
def Ex {α : Type} (f : α → HP) : HP := fun h => ∃ x, f x h
def Pu (p : Prop) (P : HP) : HP := fun h => p ∧ P h
theorem Hs.ex {α : Type} {f : α → HP} (H : Hs w0 w (Ex f :: R)) : ∃ x, Hs w0 w (f x :: R) := by
  obtain ⟨h, hs, h1, h2, hd, rfl, ⟨x, hx⟩, hr⟩ := H.heap
  exact ⟨x, H.os, H.tape, H.output, _, hs, h1, h2, hd, rfl, hx, hr⟩
theorem Hs.mk_ex {α : Type} {f : α → HP} (x : α) (H : Hs w0 w (f x :: R)) : Hs w0 w (Ex f :: R) := H.mono fun _ h => ⟨x, h⟩
theorem Hs.pu {p : Prop} (H : Hs w0 w (Pu p P :: R)) : p ∧ Hs w0 w (P :: R) := by
  obtain ⟨h, hs, h1, h2, hd, rfl, ⟨hp, hx⟩, hr⟩ := H.heap
  exact ⟨hp, H.os, H.tape, H.output, _, hs, h1, h2, hd, rfl, hx, hr⟩
theorem Hs.mk_pu {p : Prop} (hp : p) (H : Hs w0 w (P :: R)) : Hs w0 w (Pu p P :: R) := H.mono fun _ h => ⟨hp, h⟩
/-- The part's own heap. -/
theorem Hs.get (H : Hs w0 w (P :: R)) : ∃ h : Hp, (∀ k o, h k = some o → w.heap[k]? = some o) ∧ P h := by
  obtain ⟨h, hs, h1, h2, hd, rfl, hp, hr⟩ := H.heap
  refine ⟨h1, fun k o hk => hs k o ?_, hp⟩
  simp [Un, hk]

/-! ### 2. Worlds move on -/
/-- w' has all of w's blocks as they are. -/
theorem Hs.step (H : Hs w0 w L) (ho : w'.os = w.os) (ht : w'.tape = w.tape) (hu : w'.output = w.output) (hb : ∀ k, k < w.heap.size → w'.heap[k]? = w.heap[k]?) : Hs w0 w' L := by
  obtain ⟨h, hs, hL⟩ := H.heap
  refine ⟨ho.trans H.os, ht.trans H.tape, hu.trans H.output, h, fun k o hk => ?_, hL⟩
  have := hs k o hk
  rw [hb k (Array.getElem?_eq_some_iff.1 this).1]
  exact this
theorem Hs.drew (H : Hs w0 w L) : Hs w0 w.drew L := H.step rfl rfl rfl fun _ _ => rfl
theorem Hs.drewN (H : Hs w0 w L) (n : Nat) : Hs w0 (w.drewN n) L := H.step rfl rfl rfl fun _ _ => rfl
theorem Hs.below (H : Hs w0 w L) (hb : Below w.heap.size w w') : Hs w0 w' L := H.step hb.os hb.tape hb.output fun k hk => hb.block k hk
theorem Hs.alloc_ (H : Hs w0 w L) (o : Obj) : Hs w0 (w.alloc o) L := H.step rfl rfl rfl fun k hk => Below.heap_alloc w o k hk

/-- One block. -/
def Blk (b : Nat) (o : Obj) : HP := fun h => h b = some o
theorem Hs.blk {b : Nat} {o : Obj} (H : Hs w0 w (Blk b o :: R)) : w.heap[b]? = some o := by
  obtain ⟨h, hs, hp⟩ := H.get
  exact hs _ _ hp
theorem Hs.lt {b : Nat} {o : Obj} (H : Hs w0 w (Blk b o :: R)) : b < w.heap.size := (Array.getElem?_eq_some_iff.1 H.blk).1
/-- P's part, cut down to what P is said of by Q, can be replaced where only blocks of P's part turn, and new ones come. -/
theorem Hs.turn (H : Hs w0 w (P :: R)) (ho : w'.os = w.os) (ht : w'.tape = w.tape) (hu : w'.output = w.output)
    (hq : ∀ h : Hp, P h → (∀ k o, h k = some o → w.heap[k]? = some o) → ∃ h' : Hp, Q h' ∧ (∀ k o, h' k = some o → w'.heap[k]? = some o) ∧ (∀ k, h' k ≠ none → h k ≠ none ∨ w.heap.size ≤ k) ∧ (∀ k, k < w.heap.size → h k = none → w'.heap[k]? = w.heap[k]?)) :
    Hs w0 w' (Q :: R) := by
  obtain ⟨h, hs, h1, h2, hd, rfl, hp, hr⟩ := H.heap
  obtain ⟨h', hq', hs', hn, hk⟩ := hq h1 hp (fun k o hk => hs k o (by simp [Un, hk]))
  have old : ∀ k o, h2 k = some o → h1 k = none ∧ w.heap[k]? = some o := fun k o hk => by
    rcases hd k with e | e
    · exact ⟨e, hs k o (by simp [Un, e, hk])⟩
    · rw [e] at hk; cases hk
  have hd' : Dj h' h2 := fun k => by
    cases e : h2 k with
    | none => exact .inr rfl
    | some o =>
      left
      obtain ⟨e1, e2⟩ := old k o e
      cases e' : h' k with
      | none => rfl
      | some o' =>
        rcases hn k (by simp [e']) with h | h
        · exact absurd e1 h
        · have := (Array.getElem?_eq_some_iff.1 e2).1; omega
  refine ⟨ho.trans H.os, ht.trans H.tape, hu.trans H.output, Un h' h2, fun k o hko => ?_, h', h2, hd', rfl, hq', hr⟩
  unfold Un at hko
  cases e : h' k with
  | some o' => rw [e] at hko; simp at hko; subst hko; exact hs' k _ e
  | none =>
    rw [e] at hko
    simp at hko
    obtain ⟨e1, e2⟩ := old k o hko
    rw [hk k (Array.getElem?_eq_some_iff.1 e2).1 e1]
    exact e2
/-- A new block. -/
theorem Hs.alloc (H : Hs w0 w L) (o : Obj) : Hs w0 (w.alloc o) (Blk w.heap.size o :: L) := by
  obtain ⟨h, hs, hL⟩ := H.heap
  refine ⟨H.os, H.tape, H.output, Un (fun k => if k = w.heap.size then some o else none) h, ?_, fun k => if k = w.heap.size then some o else none, h, ?_, rfl, ?_, hL⟩
  · intro k x hk
    unfold Un at hk
    by_cases e : k = w.heap.size
    · subst e
      simp at hk
      subst hk
      exact heap_alloc_new w _
    · simp [e] at hk
      have := hs k x hk
      rw [Below.heap_alloc w o k (Array.getElem?_eq_some_iff.1 this).1]
      exact this
  · intro k
    by_cases e : k = w.heap.size
    · right
      cases e' : h k with
      | none => rfl
      | some x =>
        have := (Array.getElem?_eq_some_iff.1 (hs k x e')).1
        omega
    · left; simp [e]
  · simp [Blk]
/-- A block is written. -/
theorem Hs.write {b : Nat} {o o' : Obj} (H : Hs w0 w (Blk b o :: R)) (ho : w'.os = w.os) (ht : w'.tape = w.tape) (hu : w'.output = w.output)
    (hb : w'.heap[b]? = some o') (hk : ∀ k, k ≠ b → w'.heap[k]? = w.heap[k]?) : Hs w0 w' (Blk b o' :: R) := by
  refine H.turn ho ht hu fun h hp hs => ⟨fun k => if k = b then some o' else none, by simp [Blk], ?_, ?_, ?_⟩
  · intro k x hx
    by_cases e : k = b
    · subst e; simp at hx; subst hx; exact hb
    · simp [e] at hx
  · intro k hk'
    by_cases e : k = b
    · subst e; left; rw [show h k = some o from hp]; simp
    · simp [e] at hk'
  · intro k _ hn
    refine hk k fun e => ?_
    subst e
    rw [show h k = some o from hp] at hn
    cases hn
theorem Hs.setCell {b i : Nat} {cs : Array Value} {t : TypeId} (v : Value) (H : Hs w0 w (Blk b (.cells cs t (0, 0)) :: R)) :
    Hs w0 (w.setCell ⟨b, i, none⟩ v) (Blk b (.cells (cs.setIfInBounds i v) t (0, 0)) :: R) := by
  have hb := H.blk
  have hlt := H.lt
  refine H.write rfl rfl rfl ?_ ?_
  · simp [World.setCell, Array.getElem?_modify, hb]
  · intro k hk
    simp [World.setCell, Array.getElem?_modify, Ne.symm hk]
/-- The memory that was there at the beginning. -/
def Old (w0 : World) : HP := fun h => ∀ k, k < w0.heap.size → h k = w0.heap[k]?
theorem Hs.start (w : World) : Hs w w [Old w] := by
  refine ⟨rfl, rfl, rfl, fun k => w.heap[k]?, fun k o h => h, fun k => w.heap[k]?, fun _ => none, fun k => .inr rfl, ?_, fun k _ => rfl, trivial⟩
  funext k
  simp [Un]
theorem Hs.old {w1 : World} (H : Hs w0 w (Old w1 :: R)) : ∀ k, k < w1.heap.size → w.heap[k]? = w1.heap[k]? := by
  obtain ⟨h, hs, hp⟩ := H.get
  intro k hk
  have := hp k hk
  rw [Array.getElem?_eq_getElem hk] at this ⊢
  exact hs _ _ this
theorem Hs.under_old (H : Hs w0 w (Old w0 :: R)) : Below w0.heap.size w0 w := by
  refine ⟨H.os, H.tape, H.output, ?_, H.old⟩
  rcases Nat.eq_zero_or_pos w0.heap.size with h | h
  · omega
  · have := H.old (w0.heap.size - 1) (by omega)
    rw [Array.getElem?_eq_getElem (show w0.heap.size - 1 < w0.heap.size by omega)] at this
    have := (Array.getElem?_eq_some_iff.1 this).1
    omega
theorem Hs.old_cell {w1 : World} (H : Hs w0 w (Old w1 :: R)) {a : Addr} {v : Value} (h : w1.cell? a = some v) : w.cell? a = some v :=
  (World.cell?_of_block (H.old a.block (World.block_lt_of_cell? w1 a h))).trans h
theorem Hs.ne {b b' : Nat} {o o' : Obj} (H : Hs w0 w (Blk b o :: Blk b' o' :: R)) : b ≠ b' := by
  obtain ⟨h, hs, h1, h2, hd, rfl, hp, h3, h4, hd', rfl, hq, hr⟩ := H.heap
  rintro rfl
  rcases hd b with e | e
  · rw [show h1 b = some o from hp] at e; cases e
  · simp [Un, show h3 b = some o' from hq] at e
theorem Hs.new_ne {b : Nat} {o : Obj} (H : Hs w0 w (Blk b o :: R)) : b ≠ w.heap.size := fun e => by have := H.lt; omega
end

/-! ### 3. Rows of cells: a slice's own part of a block -/
/-- The slice v, of n elements (of type t, sz cells each), has the cells xs; it owns them, and its spare room. -/
def Sl (t : TypeId) (sz : Nat) (v : Value) (n : Nat) (xs : List Value) : HP := fun h =>
  xs.length = n * sz ∧ ((v = .slice none 0 0 ∧ n = 0) ∨
    ∃ g off cap cur, v = .slice (some ⟨g, off, none⟩) n cap ∧ h g = some (.cells cur t (0, 0)) ∧ n ≤ cap ∧ cap ≤ maxLen ∧ off + cap * sz ≤ cur.size ∧ ∀ j u, xs[j]? = some u → cur[off + j]? = some u)
/-- What is read of a slice, whosever it is. -/
def Rd (w : World) (v : Value) (n : Nat) (xs : List Value) : Prop :=
  ∃ A c, v = .slice A n c ∧ n ≤ maxLen ∧ n ≤ c ∧ c ≤ maxLen ∧ (A = none → n = 0 ∧ c = 0) ∧ (0 < n → ∀ a, A = some a → a.spot = none ∧ ∀ j u, xs[j]? = some u → w.cell? ⟨a.block, a.off + j, none⟩ = some u)
section
variable {w0 w w' : World} {t : TypeId} {sz n : Nat} {v : Value} {xs : List Value} {R : List HP}
theorem Sl.nil (h : Hp) : Sl t sz (.slice none 0 0) 0 [] h := ⟨by simp, .inl ⟨rfl, rfl⟩⟩
theorem Hs.mk_nil (H : Hs w0 w R) (t : TypeId) (sz : Nat) : Hs w0 w (Sl t sz (.slice none 0 0) 0 [] :: R) := by
  obtain ⟨h, hs, hR⟩ := H.heap
  refine ⟨H.os, H.tape, H.output, h, hs, fun _ => none, h, fun _ => .inl rfl, ?_, Sl.nil _, hR⟩
  funext k
  simp [Un]
theorem Hs.sl_len (H : Hs w0 w (Sl t sz v n xs :: R)) : xs.length = n * sz := let ⟨_, _, hp⟩ := H.get; hp.1
theorem Hs.sl_form (H : Hs w0 w (Sl t sz v n xs :: R)) : ∃ A c, v = .slice A n c := by
  obtain ⟨h, hs, _, ⟨rfl, rfl⟩ | ⟨g, off, cap, cur, rfl, _⟩⟩ := H.get
  · exact ⟨_, _, rfl⟩
  · exact ⟨_, _, rfl⟩
theorem Hs.sl_max (H : Hs w0 w (Sl t sz v n xs :: R)) : n ≤ maxLen := by
  obtain ⟨h, hs, _, ⟨rfl, rfl⟩ | ⟨g, off, cap, cur, rfl, _, h1, h2, _⟩⟩ := H.get
  · exact Nat.zero_le _
  · exact Nat.le_trans h1 h2
theorem Hs.sl_rd (H : Hs w0 w (Sl t sz v n xs :: R)) : Rd w v n xs := by
  obtain ⟨h, hs, _, ⟨rfl, rfl⟩ | ⟨g, off, cap, cur, rfl, hg, h1, h2, h3, h4⟩⟩ := H.get
  · exact ⟨_, _, rfl, Nat.zero_le _, Nat.le_refl _, Nat.zero_le _, fun _ => ⟨rfl, rfl⟩, fun _ a h => by cases h⟩
  · refine ⟨_, _, rfl, Nat.le_trans h1 h2, h1, h2, fun h => (by cases h), fun _ a ha => ?_⟩
    injection ha with ha
    subst ha
    refine ⟨rfl, fun j u hu => ?_⟩
    rw [cell_of_row w g (off + j) cur t (0, 0) (hs _ _ hg)]
    exact h4 j u hu
theorem Hs.sl_caps {A : Option Addr} {c : Nat} (H : Hs w0 w (Sl t sz (.slice A n c) n xs :: R)) : n ≤ c ∧ c ≤ 9223372036854775807 := by
  obtain ⟨_, _, he, h1, h2, h3, _⟩ := H.sl_rd
  injection he with _ _ he
  subst he
  unfold maxLen at h3
  exact ⟨h2, by omega⟩
end
end Go.Proofs.Ytlpcofjmleghdaa

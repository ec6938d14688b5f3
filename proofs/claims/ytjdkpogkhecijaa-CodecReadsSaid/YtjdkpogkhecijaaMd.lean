import Derived.Test.YtjdkpogkhecijaaOw
import Derived.Test.YtjdkpogkhecijaaSy
import Derived.Test.YtjdkpogkhecijaaPt
import Derived.Test.YtjdkpogkhecijaaAt
import Derived.Laws.BitsAllLaws
import Derived.Test.YtjdkpogkhecijaaProg
import Derived.Test.YtjdkpogkhecijaaLs
import Derived.Outline
import Derived.StillTailTactics
import Derived.Deep.DeepCutAuto
import Derived.Deep.CutBlock
import Derived.Deep.LoopGhost
import Derived.Deep.QuietTactic
import Derived.BigQuiet
import Derived.Deep.RegionHeld3
import Derived.Deep.RegionLaw
set_option linter.unusedVariables false
set_option linter.unusedSimpArgs false
namespace Go.Proofs.Ytjdkpogkhecijaa
open Go.RowKit
theorem mixed : Try.prog.follows .mixedOrders = true := by kernel_rfl
abbrev U8 : Enc Int := Enc.num .u8
theorem infoB8 : (Try.prog.info? 5).map (fun i => (i.zero, i.size, i.bytes)) = some (some (.int .u8 0), 1, 1) := by kernel_rfl
/-- A number's bytes, the highest first. -/
def put : Nat → Int → List Int
  | 0, _ => []
  | k + 1, n => (n / 2 ^ (8 * k) % 256) :: put k n
theorem put_len (k : Nat) (n : Int) : (put k n).length = k := by
  induction k with
  | zero => rfl
  | succ k ih => show (put k n).length + 1 = _; rw [ih]
/-- The number of some bytes. -/
def valN (l : List Int) : Nat := l.foldl (fun n x => n * 256 + x.toNat) 0
def val (l : List Int) : Int := (valN l : Int)
def Byt (l : List Int) : Prop := ∀ x ∈ l, 0 ≤ x ∧ x < 256
theorem Byt.take {l : List Int} (h : Byt l) (k : Nat) : Byt (l.take k) := fun x hx => h x (List.mem_of_mem_take hx)
theorem Byt.drop {l : List Int} (h : Byt l) (k : Nat) : Byt (l.drop k) := fun x hx => h x (List.mem_of_mem_drop hx)
theorem Byt.append {l m : List Int} (h : Byt l) (g : Byt m) : Byt (l ++ m) := fun x hx => by rcases List.mem_append.1 hx with h1 | h1; exact h x h1; exact g x h1
theorem Byt.nil : Byt [] := fun x hx => by cases hx
theorem put_byt (k : Nat) (n : Int) : Byt (put k n) := by
  induction k with
  | zero => exact Byt.nil
  | succ k ih =>
    intro x hx
    rcases List.mem_cons.1 hx with rfl | h
    · omega
    · exact ih x h
theorem valN_snoc (l : List Int) (x : Int) : valN (l ++ [x]) = valN l * 256 + x.toNat := by unfold valN; rw [List.foldl_append]; rfl
theorem valN_lt (l : List Int) (h : Byt l) : valN l < 256 ^ l.length := by
  have : ∀ (l : List Int), Byt l.reverse → valN l.reverse < 256 ^ l.length := by
    intro l
    induction l with
    | nil => intro _; decide
    | cons x r ih =>
      intro hb
      rw [List.reverse_cons] at hb ⊢
      rw [valN_snoc, List.length_cons, Nat.pow_succ]
      have h1 := ih (fun y hy => hb y (by simp at hy ⊢; exact .inl hy))
      have h2 := hb x (by simp)
      omega
  have h2 := this l.reverse (by rw [List.reverse_reverse]; exact h)
  rwa [List.reverse_reverse, List.length_reverse] at h2
theorem take_one {α : Type} {l : List α} {j : Nat} {x : α} (h : l[j]? = some x) : l.take (j + 1) = l.take j ++ [x] := by rw [List.take_add_one, h]; rfl
/-- What a reader has left; bad: something wasn't there. -/
abbrev Rst := List Int × Bool
def rtk (k : Nat) (s : Rst) : List Int × Rst := if k ≤ s.1.length then (s.1.take k, (s.1.drop k, s.2)) else ([], (s.1, true))
def rnum (k : Nat) (s : Rst) : Int × Rst := (val (rtk k s).1, (rtk k s).2)
def rnumR (k : Nat) (s : Rst) : Int × Rst := if s.2 = false ∧ k ≤ s.1.length then (val (s.1.take k), (s.1.drop k, false)) else (0, (s.1, true))
theorem rtk_byt {k : Nat} {s : Rst} (h : Byt s.1) : Byt (rtk k s).1 ∧ Byt (rtk k s).2.1 := by
  unfold rtk
  split
  · exact ⟨h.take k, h.drop k⟩
  · exact ⟨Byt.nil, h⟩
theorem rtk_len (k : Nat) (s : Rst) : (rtk k s).1.length ≤ k ∧ (rtk k s).2.1.length ≤ s.1.length := by
  unfold rtk
  split
  · exact ⟨List.length_take_le _ _, by show (s.1.drop k).length ≤ _; rw [List.length_drop]; omega⟩
  · exact ⟨Nat.zero_le _, Nat.le_refl _⟩
/-- Behind a read: x is told, the reader (block p, of type t) has s left. -/
def RdPost (v : Value) (bs : List Int) (p t : Nat) (w0 : World) (R : List HP) (x : Value) (s : Rst) (e : Ending) (w' : World) : Prop :=
  ∃ v2, e = .returned x ∧ (∀ W, RdL U8 W v bs → RdL U8 W v2 s.1) ∧ Hs w0 w' (Blk p (.cells #[v2, .bool s.2] t) :: R)
/-- What a reader's 8 bytes are as int64. -/
def lng (k : Nat) (s : Rst) : Int × Rst := (wrap64 (rnum k s).1, (rnum k s).2)
def lngR (k : Nat) (s : Rst) : Int × Rst := (wrap64 (rnumR k s).1, (rnumR k s).2)
def u64 (x : Int) : Int := x % 18446744073709551616
def rdPair {α β : Type} (rd : Rst → α × Rst) (rd2 : Rst → β × Rst) (s : Rst) : (α × β) × Rst := (((rd s).1, (rd2 (rd s).2).1), (rd2 (rd s).2).2)
def rdMap {α β : Type} (rd : Rst → α × Rst) (f : α → β) (s : Rst) : β × Rst := (f (rd s).1, (rd s).2)
/-! ### frames: kind, record, mark, number, over -/
abbrev Fr := Int × (Int × Int × Int) × Int × Int × Bool
abbrev frc (f : Fr) : Array Value := #[.int .i64 f.1, .int .i64 f.2.1.1, .int .i64 f.2.1.2.1, .int .i64 f.2.1.2.2, .int .i64 f.2.2.1, .int .u64 f.2.2.2.1, .bool f.2.2.2.2]
def frv (f : Fr) : Value := .agg (frc f)
def Right (f : Fr) : Prop := (f.1 = 1 ∧ f.2.2 = (0, 0, false)) ∨ (f.1 = 2 ∧ f.2.1 = (0, 0, 0) ∧ f.2.2.2 = (0, false)) ∨ (f.1 = 3 ∧ f.2.1 = (0, 0, 0) ∧ f.2.2.1 = 0)
instance (f : Fr) : Decidable (Right f) := by unfold Right; exact inferInstance
/-- A frame's bytes. -/
def frb (f : Fr) : List Int := put 1 f.1 ++ if f.1 = 1 then put 8 (u64 f.2.1.1) ++ (put 8 (u64 f.2.1.2.1) ++ put 8 (u64 f.2.1.2.2)) else if f.1 = 2 then put 8 (u64 f.2.2.1) else put 8 f.2.2.2.1 ++ put 1 (if f.2.2.2.2 = true then 1 else 0)
def rdOver (r1 : Rst → Int × Rst) (s : Rst) : Bool × Rst := ((r1 s).1 == 1, ((r1 s).2.1, (r1 s).2.2 || decide (1 < (r1 s).1)))
def rdF (r1 ru r8 : Rst → Int × Rst) (s : Rst) : Fr × Rst :=
  if (r1 s).1 = 1 then ((1, (rdPair r8 (rdPair r8 r8) (r1 s).2).1, 0, 0, false), (rdPair r8 (rdPair r8 r8) (r1 s).2).2)
  else if (r1 s).1 = 2 then ((2, (0, 0, 0), (r8 (r1 s).2).1, 0, false), (r8 (r1 s).2).2)
  else if (r1 s).1 = 3 then ((3, (0, 0, 0), 0, (rdPair ru (rdOver r1) (r1 s).2).1.1, (rdPair ru (rdOver r1) (r1 s).2).1.2), (rdPair ru (rdOver r1) (r1 s).2).2)
  else (((r1 s).1, (0, 0, 0), 0, 0, false), ((r1 s).2.1, true))
def rdFr : Rst → Fr × Rst := rdF (rnum 1) (rnum 8) (lng 8)
def rdFrR : Rst → Fr × Rst := rdF (rnumR 1) (rnumR 8) (lngR 8)
/-- Bytes and an error are told. -/
def BE (w0 : World) (R : List HP) (L : List Int) (er : Int) (e : Ending) (w' : World) : Prop := ∃ A c, e = .returned (.tuple #[.slice A L.length c, .int .i64 er]) ∧ Hs w0 w' (Ls U8 5 (.slice A L.length c) L :: R)
def fout (f : Fr) : List Int := if Right f then frb f else []
def ferr (f : Fr) : Int := if Right f then 0 else 10
end Go.Proofs.Ytjdkpogkhecijaa

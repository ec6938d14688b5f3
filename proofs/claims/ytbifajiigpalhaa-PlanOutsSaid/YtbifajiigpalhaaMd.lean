import Derived.Test.YtbifajiigpalhaaOw
import Derived.Test.YtbifajiigpalhaaSy
import Derived.Test.YtbifajiigpalhaaPt
import Derived.Test.YtbifajiigpalhaaProg
import Derived.Test.YtbifajiigpalhaaLs
import Derived.Outline
import Derived.StillTailTactics
import Derived.Deep.DeepCutAuto
import Derived.Deep.CutBlock
import Derived.Deep.LoopGhost
import Derived.Deep.QuietTactic
import Derived.BigQuiet
import Derived.Deep.RegionHeld3
import Derived.Deep.RegionLaw
set_option linter.unusedVariables false
set_option linter.unusedSimpArgs false
namespace Go.Proofs.Ytbifajiigpalhaa
open Go.RowKit
theorem mixed : Try.prog.follows .mixedOrders = true := by kernel_rfl
/-! ### jobs and plans, as they lie in memory -/
abbrev ERow := Int × Int × Slc
abbrev EEx : Enc ERow := (Enc.num .i64).pair ((Enc.num .i64).pair Enc.slc)
abbrev NRow := Int × Slc × Int × ERow × Int × (Int × Int × Int)
abbrev EN : Enc NRow := (Enc.num .i64).pair (Enc.slc.pair ((Enc.num .i64).pair (EEx.pair ((Enc.num .i64).pair ((Enc.num .i64).pair ((Enc.num .i64).pair (Enc.num .i64)))))))
abbrev ETask : Enc (Int × Int) := (Enc.num .i64).pair (Enc.num .i64)
abbrev EChn : Enc (Int × Int × Int) := (Enc.num .i64).pair ((Enc.num .i64).pair (Enc.num .i64))
/-- A node with its inputs. -/
abbrev Nd := NRow × List Int
def Nd.kind (z : Nd) : Int := z.1.1
def Nd.par (z : Nd) : Int := z.1.2.2.1
def Nd.sl (z : Nd) : Value := .slice z.1.2.1.1 z.1.2.1.2.1 z.1.2.1.2.2
def JobR (w : World) (v : Value) (zs : List Nd) : Prop := RdL EN w v (zs.map (·.1)) ∧ ∀ z ∈ zs, RdL (Enc.num .i64) w z.sl z.2
section
variable {w w' w0 : World} {v : Value} {zs : List Nd} {R : List HP}
theorem JobR.step (H : JobR w v zs) (hb : ∀ k, k < w.heap.size → w'.heap[k]? = w.heap[k]?) : JobR w' v zs := ⟨H.1.step hb, fun z hz => (H.2 z hz).step hb⟩
theorem JobR.old {w1 : World} (H : JobR w1 v zs) (h : Hs w0 w (Old w1 :: R)) : JobR w v zs := H.step h.old
theorem JobR.form (H : JobR w v zs) : ∃ A c, v = .slice A zs.length c := by
  obtain ⟨A, c, h⟩ := H.1.form
  exact ⟨A, c, by rw [h, List.length_map]⟩
/-- A node's cells. -/
theorem JobR.cells {g off n c : Nat} (H : JobR w (.slice (some ⟨g, off, none⟩) n c) zs) {i : Nat} {z : Nd} (hz : zs[i]? = some z) :
    w.cell? ⟨g, off + i * 10, none⟩ = some (.int .i64 z.kind) ∧ w.cell? ⟨g, off + i * 10 + 1, none⟩ = some z.sl ∧ w.cell? ⟨g, off + i * 10 + 2, none⟩ = some (.int .i64 z.par) ∧
    w.cell? ⟨g, off + i * 10 + 3, none⟩ = some (.int .i64 z.1.2.2.2.1.1) ∧ w.cell? ⟨g, off + i * 10 + 4, none⟩ = some (.int .i64 z.1.2.2.2.1.2.1) ∧ w.cell? ⟨g, off + i * 10 + 5, none⟩ = some (.slice z.1.2.2.2.1.2.2.1 z.1.2.2.2.1.2.2.2.1 z.1.2.2.2.1.2.2.2.2) ∧
    w.cell? ⟨g, off + i * 10 + 6, none⟩ = some (.int .i64 z.1.2.2.2.2.1) ∧ w.cell? ⟨g, off + i * 10 + 7, none⟩ = some (.int .i64 z.1.2.2.2.2.2.1) ∧ w.cell? ⟨g, off + i * 10 + 8, none⟩ = some (.int .i64 z.1.2.2.2.2.2.2.1) ∧ w.cell? ⟨g, off + i * 10 + 9, none⟩ = some (.int .i64 z.1.2.2.2.2.2.2.2) := by
  have hx : (zs.map (·.1))[i]? = some z.1 := by rw [List.getElem?_map, hz]; rfl
  exact ⟨H.1.cell hx 0 rfl, H.1.cell hx 1 rfl, H.1.cell hx 2 rfl, H.1.cell hx 3 rfl, H.1.cell hx 4 rfl, H.1.cell hx 5 rfl, H.1.cell hx 6 rfl, H.1.cell hx 7 rfl, H.1.cell hx 8 rfl, H.1.cell hx 9 rfl⟩
end
/-! ### the plan, plain -/
theorem fm_step {α β : Type} (f : α → List β) (L : List α) (j : Nat) (x : α) (hx : L[j]? = some x) : (L.take (j + 1)).flatMap f = (L.take j).flatMap f ++ f x := by
  rw [List.take_add_one, hx, List.flatMap_append]
  simp
theorem zipIdx_get {α : Type} (L : List α) (j : Nat) (x : α) (hx : L[j]? = some x) : L.zipIdx[j]? = some (x, j) := by
  rw [List.getElem?_zipIdx, hx]
  simp
def isN (n : Nat) (k : Int) : Bool := decide (0 ≤ k) && decide (k < (n : Int))
def keyK (x : Int) : Bool := x == 6 || x == 7
def keyed (zs : List Nd) (k : Int) : Bool := isN zs.length k && (match zs[k.toNat]? with | some z => keyK z.kind | none => false)
def tcount (z : Nd) : Nat := (min z.par 4).toNat
def chosen {α : Type} (p : α → Bool) (l : List α) : List Int := l.zipIdx.flatMap fun x => if p x.1 then [(x.2 : Int)] else []
def tasks (zs : List Nd) : List (Int × Int) := zs.zipIdx.flatMap fun x => (List.range (tcount x.1)).flatMap fun k : Nat => [((x.2 : Int), (k : Int))]
def parOf (zs : List Nd) (k : Int) : Int := match zs[k.toNat]? with | some z => z.par | none => 0
def partOf (T : List (Int × Int)) (k : Int) : Int := match T[k.toNat]? with | some x => x.2 | none => 0
def chn1 (T : List (Int × Int)) (all : Bool) (f : Int) (input : Nat) (t : Int) : List (Int × Int × Int) := if all || partOf T f == partOf T t then [(f, t, (input : Int))] else []
def chn2 (T : List (Int × Int)) (all : Bool) (i : Nat) (input : Nat) (f : Int) : List (Int × Int × Int) := (chosen (fun x => x.1 == (i : Int)) T).flatMap (chn1 T all f input)
def chn3 (zs : List Nd) (T : List (Int × Int)) (i : Nat) (z : Nd) (x : Int × Nat) : List (Int × Int × Int) :=
  if isN zs.length x.1 then (chosen (fun y => y.1 == x.1) T).flatMap (chn2 T (keyed zs i || parOf zs x.1 != z.par) i x.2) else []
def chn4 (zs : List Nd) (T : List (Int × Int)) (x : Nd × Nat) : List (Int × Int × Int) := x.1.2.zipIdx.flatMap (chn3 zs T x.2 x.1)
def chans (zs : List Nd) : List (Int × Int × Int) := zs.zipIdx.flatMap (chn4 zs (tasks zs))
/-! lengths -/
theorem flatMap_len {α β : Type} (f : α → List β) (L : List α) (m : Nat) (h : ∀ x ∈ L, (f x).length ≤ m) : (L.flatMap f).length ≤ L.length * m := by
  induction L with
  | nil => simp
  | cons a l ih =>
    rw [List.flatMap_cons, List.length_append, List.length_cons, Nat.succ_mul]
    have := ih fun x hx => h x (by simp [hx])
    have := h a (by simp)
    omega
theorem chosen_len {α : Type} (p : α → Bool) (l : List α) : (chosen p l).length ≤ l.length := by
  have := flatMap_len (fun x : α × Nat => if p x.1 then [(x.2 : Int)] else []) l.zipIdx 1 fun x _ => by split <;> simp
  unfold chosen
  simpa using this
theorem tcount_le (z : Nd) : tcount z ≤ 4 := by unfold tcount; omega
theorem tasks_len (zs : List Nd) : (tasks zs).length ≤ zs.length * 4 := by
  have := flatMap_len (fun x : Nd × Nat => (List.range (tcount x.1)).flatMap fun k : Nat => [((x.2 : Int), (k : Int))]) zs.zipIdx 4 fun x _ => by
    have := flatMap_len (fun k : Nat => [((x.2 : Int), (k : Int))]) (List.range (tcount x.1)) 1 (fun _ _ => Nat.le_refl _)
    have := tcount_le x.1
    simp at *
    omega
  unfold tasks
  simpa using this
end Go.Proofs.Ytbifajiigpalhaa

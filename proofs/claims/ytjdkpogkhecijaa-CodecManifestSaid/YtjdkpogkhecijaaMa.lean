import Derived.Test.YtjdkpogkhecijaaWh
import Derived.Test.YtjdkpogkhecijaaFa
import Derived.Test.YtjdkpogkhecijaaAs
import Derived.IntWalk
import Derived.Test.YtjdkpogkhecijaaProg
import Derived.Test.YtjdkpogkhecijaaLs
import Derived.Outline
import Derived.StillTailTactics
import Derived.Deep.DeepCutAuto
import Derived.Deep.CutBlock
import Derived.Deep.LoopGhost
import Derived.Deep.QuietTactic
import Derived.BigQuiet
import Derived.Deep.RegionHeld3
import Derived.Deep.RegionLaw
set_option linter.unusedVariables false
set_option linter.unusedSimpArgs false
namespace Go.Proofs.Ytjdkpogkhecijaa
open Go.RowKit
open Go.WideShapes (bytes_inj)
/-! ### files' names -/
def bytesOf (s : ByteArray) : List Int := s.data.toList.map fun c => (c.toNat : Int)
theorem bytesOf_len (s : ByteArray) : (bytesOf s).length = s.size := by unfold bytesOf; rw [List.length_map, Array.length_toList]; rfl
theorem bytesOf_byt (s : ByteArray) : Byt (bytesOf s) := fun x hx => by
  unfold bytesOf at hx
  obtain ⟨c, _, rfl⟩ := List.mem_map.1 hx
  have := c.toNat_lt
  omega
theorem bytesOf_str (l : List Int) (h : Byt l) : bytesOf (strOfNums l) = l := by
  unfold bytesOf
  rw [strOfNums_data, List.map_map]
  have : ∀ x ∈ l, ((fun c : UInt8 => (c.toNat : Int)) ∘ fun n : Int => UInt8.ofNat n.toNat) x = x := fun x hx => by
    have := h x hx
    show ((UInt8.ofNat x.toNat).toNat : Int) = x
    rw [UInt8.toNat_ofNat']
    omega
  rw [List.map_congr_left this, List.map_id']
theorem str_bytesOf (s : ByteArray) : strOfNums (bytesOf s) = s := by
  refine bytes_inj ?_
  rw [strOfNums_data]
  unfold bytesOf
  rw [List.map_map]
  have : ((fun n : Int => UInt8.ofNat n.toNat) ∘ fun c : UInt8 => (c.toNat : Int)) = id := by
    funext c
    show UInt8.ofNat ((c.toNat : Int)).toNat = c
    rw [Int.toNat_natCast]
    simp
  rw [this, List.map_id]
def fileB (s : ByteArray) : List Int := put 1 (s.size : Int) ++ bytesOf s
theorem fileB_len (s : ByteArray) : (fileB s).length = 1 + s.size := by unfold fileB; rw [List.length_append, put_len, bytesOf_len]
theorem fileB_byt (s : ByteArray) : Byt (fileB s) := Byt.append (put_byt _ _) (bytesOf_byt s)
/-- Bytes are told behind what was there. -/
def BB (w0 : World) (R : List HP) (n : Nat) (L : List Int) (e : Ending) (w' : World) : Prop := ∃ A c, e = .returned (.slice A n c) ∧ L.length = n ∧ Hs w0 w' (Ls U8 5 (.slice A n c) L :: R)
set_option maxRecDepth 100000 in
set_option maxHeartbeats 800000 in
theorem name62 (A : Option Addr) (n c : Nat) (bs : List Int) (s : ByteArray) (w w0 : World) (R : List HP) (H : Hs w0 w (Ls U8 5 (.slice A n c) bs :: R)) (hn : bs.length = n) (hl : n ≤ 1000000000) (hs : s.size ≤ 1000000) :
    Calls Try.prog 62 #[.slice A n c, .string s] w (BB w0 R (n + (1 + s.size)) (bs ++ fileB s)) := by
  have K := Lib.hid H
  have hn0 := Lib.hid hn
  have hfin : Hid ((bs ++ [(s.size : Int) % 256]) ++ bytesOf s = bs ++ fileB s) := by show _ = _; unfold fileB; rw [put1, List.append_assoc]
  clear H hn
  go_enter Try.func62, Try.ntmps62
  go_wp2_with (at_builtin; refine wpList_append1N (E := U8) n hn0.out rfl (.tmp 5) (.tmp 9) 22 rfl 5 _ 1 1 Try.underlying22 infoB8 rfl (by decide) (by decide) rfl rfl rfl (by simp) K.out ((s.size : Int) % 256) (by omega) ?_)
  intro A5 c5 w5 K5
  have hl5 : Hid ((bs ++ [(s.size : Int) % 256]).length = n + 1) := by show _ = _; rw [List.length_append, hn0.out]; rfl
  replace K5 := Lib.hid K5
  clear K
  go_wp2_with (refine wpList_append_str (n + (1 + s.size)) rfl (.tmp 10) (.tmp 11) 22 9 rfl 5 _ Try.underlying22 Try.underlying9 infoB8 rfl rfl s rfl K5.out (by omega) (by rw [hl5.out]; omega) ?_)
  intro A6 c6 w6 K6
  have K7 : Hid (Hs w0 w6 (Ls U8 5 (.slice A6 (n + (1 + s.size)) c6) (bs ++ fileB s) :: R)) := by show Hs _ _ _; rw [← hfin.out]; exact (by simpa [bytesOf] using K6)
  replace hl5 := hl5
  clear K5 K6
  go_wp2_with fail
  go_ret
  exact ⟨A6, c6, rfl, by rw [List.length_append, fileB_len, hn0.out], K7.out⟩
end Go.Proofs.Ytjdkpogkhecijaa

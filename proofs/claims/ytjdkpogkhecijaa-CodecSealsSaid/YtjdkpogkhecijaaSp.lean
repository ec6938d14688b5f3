import Derived.Test.YtjdkpogkhecijaaOs
import Derived.Test.YtjdkpogkhecijaaProg
import Derived.Test.YtjdkpogkhecijaaLs
import Derived.Outline
import Derived.StillTailTactics
import Derived.Deep.DeepCutAuto
import Derived.Deep.CutBlock
import Derived.Deep.LoopGhost
import Derived.Deep.QuietTactic
import Derived.BigQuiet
import Derived.Deep.RegionHeld3
import Derived.Deep.RegionLaw
set_option linter.unusedVariables false
set_option linter.unusedSimpArgs false
namespace Go.Proofs.Ytjdkpogkhecijaa
open Go.RowKit
/-! ### what becomes of a seal -/
theorem stp_top (c : Nat) (h : c < 4294967296) : (stp c).testBit 31 = decide (c % 2 = 1) := by
  unfold stp
  rw [Nat.testBit_xor]
  have h1 : (c / 2).testBit 31 = false := Nat.testBit_lt_two_pow (by omega)
  rw [h1, Bool.false_xor]
  by_cases h2 : c % 2 = 1
  · rw [if_pos h2, decide_eq_true h2]; decide
  · rw [if_neg h2, decide_eq_false h2]; decide
theorem xor_cancel {a b c : Nat} (h : a ^^^ c = b ^^^ c) : a = b := by
  have := congrArg (· ^^^ c) h
  simpa [Nat.xor_assoc] using this
theorem stp_inj {a b : Nat} (ha : a < 4294967296) (hb : b < 4294967296) (h : stp a = stp b) : a = b := by
  have h1 := stp_top a ha
  have h2 := stp_top b hb
  rw [h, h2, decide_eq_decide] at h1
  unfold stp at h
  by_cases h3 : a % 2 = 1
  · rw [if_pos h3, if_pos (h1.2 h3)] at h
    have := xor_cancel h
    have := h1.2 h3
    omega
  · rw [if_neg h3, if_neg (fun h4 => h3 (h1.1 h4))] at h
    have := xor_cancel h
    have : ¬ b % 2 = 1 := fun h4 => h3 (h1.1 h4)
    omega
theorem stp4_inj {a b : Nat} (ha : a < 4294967296) (hb : b < 4294967296) (h : stp4 a = stp4 b) : a = b :=
  stp_inj ha hb (stp_inj (stp_lt _ ha) (stp_lt _ hb) (stp_inj (stp_lt _ (stp_lt _ ha)) (stp_lt _ (stp_lt _ hb)) (stp_inj (stp_lt _ (stp_lt _ (stp_lt _ ha))) (stp_lt _ (stp_lt _ (stp_lt _ hb))) h)))
theorem stp8_inj {a b : Nat} (ha : a < 4294967296) (hb : b < 4294967296) (h : stp8 a = stp8 b) : a = b := stp4_inj ha hb (stp4_inj (stp4_lt _ ha) (stp4_lt _ hb) h)
theorem xor_lt32 {c : Nat} {x : Int} (hc : c < 4294967296) (hx : 0 ≤ x ∧ x < 256) : c ^^^ x.toNat < 4294967296 := Nat.xor_lt_two_pow (n := 32) hc (by omega)
theorem fold_inj : ∀ (l : List Int) (a b : Nat), Byt l → a < 4294967296 → b < 4294967296 → l.foldl crc1 a = l.foldl crc1 b → a = b := by
  intro l
  induction l with
  | nil => intro a b _ _ _ h; exact h
  | cons x r ih =>
    intro a b hl ha hb h
    have hx := hl x (by simp)
    have h1 := ih (crc1 a x) (crc1 b x) (fun y hy => hl y (by simp [hy])) (stp8_lt _ (xor_lt32 ha hx)) (stp8_lt _ (xor_lt32 hb hx)) h
    exact xor_cancel (stp8_inj (xor_lt32 ha hx) (xor_lt32 hb hx) h1)
theorem crc_set (l : List Int) (hl : Byt l) (i : Nat) (x y : Int) (hx : l[i]? = some x) (hy : 0 ≤ y ∧ y < 256) (hne : y ≠ x) : crc (l.set i y) ≠ crc l := by
  have hi := (List.getElem?_eq_some_iff.1 hx).1
  have hxx := hl x (List.mem_of_getElem? hx)
  have hb2 : Byt (l.set i y) := fun z hz => by
    rcases List.mem_or_eq_of_mem_set hz with h | h
    · exact hl z h
    · rw [h]; exact hy
  intro h
  have h1 := crcS_lt hl
  have h2 := crcS_lt hb2
  have h3 : crcS (l.set i y) = crcS l := by unfold crc at h; omega
  have e1 : l = l.take i ++ x :: l.drop (i + 1) := by
    have := List.getElem?_eq_some_iff.1 hx
    obtain ⟨h4, h5⟩ := this
    rw [← h5, List.getElem_cons_drop, List.take_append_drop]
  have e2 : l.set i y = l.take i ++ y :: l.drop (i + 1) := by rw [List.set_eq_take_append_cons_drop, if_pos hi]
  rw [e2] at h3
  unfold crcS at h3
  have e3 : l.foldl crc1 4294967295 = (l.take i ++ x :: l.drop (i + 1)).foldl crc1 4294967295 := by rw [← e1]
  rw [e3, List.foldl_append, List.foldl_append, List.foldl_cons, List.foldl_cons] at h3
  have hc : (l.take i).foldl crc1 4294967295 < 4294967296 := crcS_lt (hl.take i)
  have h6 := fold_inj _ _ _ (hl.drop (i + 1)) (stp8_lt _ (xor_lt32 hc hy)) (stp8_lt _ (xor_lt32 hc hxx)) h3
  have h7 := stp8_inj (xor_lt32 hc hy) (xor_lt32 hc hxx) h6
  rw [Nat.xor_comm, Nat.xor_comm _ x.toNat] at h7
  have := xor_cancel h7
  omega
theorem seal_take (b t : List Int) : ((sealB b ++ t).take 4) = put 4 (b.length : Int) ∧ ((sealB b ++ t).drop 4).take 4 = put 4 (crc b : Int) ∧ (sealB b ++ t).drop 8 = b ++ t := by
  have e : sealB b ++ t = put 4 (b.length : Int) ++ (put 4 (crc b : Int) ++ (b ++ t)) := by unfold sealB; simp only [List.append_assoc]
  rw [e]
  refine ⟨List.take_left' (put_len _ _), ?_, ?_⟩
  · rw [List.drop_left' (put_len _ _), List.take_left' (put_len _ _)]
  · rw [show 8 = 4 + 4 from rfl, ← List.drop_drop, List.drop_left' (put_len _ _), List.drop_left' (put_len _ _)]
theorem val_put4 (x : Nat) (h : x < 4294967296) : val (put 4 (x : Int)) = (x : Int) ∧ valN (put 4 (x : Int)) = x := by
  have h1 := val_put 4 (x : Int) (Int.natCast_nonneg _)
  rw [show (256 : Int) ^ 4 = 4294967296 from rfl, Int.emod_eq_of_lt (by omega) (by omega)] at h1
  exact ⟨h1, by unfold val at h1; omega⟩
/-- A seal opens. -/
theorem opS_seal (b t : List Int) (hb : Byt b) (hl : b.length ≤ 1048576) : opS (sealB b ++ t) = (b, 8 + (b.length : Int), 0) := by
  obtain ⟨s1, s2, s3⟩ := seal_take b t
  obtain ⟨v1, v2⟩ := val_put4 b.length (by omega)
  obtain ⟨v3, _⟩ := val_put4 (crc b) (crc_lt hb)
  have hlen : 8 ≤ (sealB b ++ t).length := by rw [List.length_append, sealB_len]; omega
  have ht : (b ++ t).take b.length = b := List.take_left' rfl
  rw [opS_ok hlen (by rw [s1, v1]; omega) (by rw [s1, v1, s3, List.length_append]; omega) (by rw [s1, v2, s3, s2, v3, ht])]
  rw [s1, v2, s3, v1, ht]
/-- Cut off it doesn't. -/
theorem opS_cut (b : List Int) (k : Nat) (hk : k < 8 + b.length) (hl : b.length ≤ 1048576) : opS ((sealB b).take k) = ([], 0, 11) := by
  obtain ⟨s1, s2, s3⟩ := seal_take b []
  rw [List.append_nil] at s1 s3
  obtain ⟨v1, v2⟩ := val_put4 b.length (by omega)
  have hkl : ((sealB b).take k).length = k := by rw [List.length_take, sealB_len]; omega
  by_cases h8 : k < 8
  · exact opS_short (by rw [hkl]; exact h8)
  · refine opS_torn ?_
    rw [List.take_take, show min 4 k = 4 by omega, s1, v1, List.length_drop, hkl]
    omega
/-- One byte turned behind the length it doesn't. -/
theorem opS_bent (b : List Int) (hb : Byt b) (k : Nat) (x y : Int) (hk : 4 ≤ k) (hx : (sealB b)[k]? = some x) (hy : 0 ≤ y ∧ y < 256) (hne : y ≠ x) (hl : b.length ≤ 1048576) : opS ((sealB b).set k y) = ([], 0, 11) := by
  have hkl := (List.getElem?_eq_some_iff.1 hx).1
  rw [sealB_len] at hkl
  obtain ⟨v1, v2⟩ := val_put4 b.length (by omega)
  obtain ⟨v3, _⟩ := val_put4 (crc b) (crc_lt hb)
  have e : sealB b = put 4 (b.length : Int) ++ (put 4 (crc b : Int) ++ b) := rfl
  have t4 : ((sealB b).set k y).take 4 = put 4 (b.length : Int) := by rw [List.take_set_of_le hk, e, List.take_left' (put_len _ _)]
  refine opS_sum ?_
  rw [t4, v2]
  by_cases h8 : k < 8
  · have d8 : ((sealB b).set k y).drop 8 = b := by rw [List.drop_set_of_lt h8]; have := (seal_take b []).2.2; rwa [List.append_nil, List.append_nil] at this
    have d4 : (((sealB b).set k y).drop 4).take 4 = (put 4 (crc b : Int)).set (k - 4) y := by
      rw [e, List.set_append_right _ _ (by rw [put_len]; exact hk), put_len, List.drop_left' (put_len _ _), List.set_append_left _ _ (by rw [put_len]; omega), List.take_left' (by rw [List.length_set, put_len])]
    have hx4 : (put 4 (crc b : Int))[k - 4]? = some x := by
      rw [e, List.getElem?_append_right (by rw [put_len]; exact hk), put_len, List.getElem?_append_left (by rw [put_len]; omega)] at hx
      exact hx
    rw [d8, d4, List.take_of_length_le (Nat.le_refl _)]
    intro h
    have hb4 : Byt ((put 4 (crc b : Int)).set (k - 4) y) := fun z hz => by
      rcases List.mem_or_eq_of_mem_set hz with h | h
      · exact put_byt _ _ z h
      · rw [h]; exact hy
    have p1 := put_val _ hb4
    rw [List.length_set, put_len, ← h] at p1
    have := congrArg (fun l : List Int => l[k - 4]?) p1
    rw [hx4, List.getElem?_set, if_pos rfl, if_pos (by rw [put_len]; omega)] at this
    exact hne (Option.some.inj this).symm
  · have d8 : ((sealB b).set k y).drop 8 = b.set (k - 8) y := by
      rw [List.drop_set, if_neg h8]
      have := (seal_take b []).2.2
      rw [List.append_nil, List.append_nil] at this
      rw [this]
    have d4 : (((sealB b).set k y).drop 4).take 4 = put 4 (crc b : Int) := by
      rw [List.drop_set, if_neg (by omega), List.take_set_of_le (by omega)]
      have := (seal_take b []).2.1
      rwa [List.append_nil] at this
    have hx8 : b[k - 8]? = some x := by
      rw [e, List.getElem?_append_right (by rw [put_len]; exact hk), put_len, List.getElem?_append_right (by rw [put_len]; omega), put_len, show k - 4 - 4 = k - 8 by omega] at hx
      exact hx
    rw [d8, d4, v3, List.take_of_length_le (by rw [List.length_set]; exact Nat.le_refl _)]
    intro h
    exact crc_set b hb (k - 8) x y hx8 hy hne (by omega)
end Go.Proofs.Ytjdkpogkhecijaa

import Derived.Test.YtjdkpogkhecijaaMd
import Derived.Test.YtjdkpogkhecijaaProg
import Derived.Test.YtjdkpogkhecijaaLs
import Derived.Outline
import Derived.StillTailTactics
import Derived.Deep.DeepCutAuto
import Derived.Deep.CutBlock
import Derived.Deep.LoopGhost
import Derived.Deep.QuietTactic
import Derived.BigQuiet
import Derived.Deep.RegionHeld3
import Derived.Deep.RegionLaw
set_option linter.unusedVariables false
set_option linter.unusedSimpArgs false
namespace Go.Proofs.Ytjdkpogkhecijaa
open Go.RowKit
/-! ### numbers and their bytes -/
theorem pow8 (k : Nat) : (2 : Int) ^ (8 * k) = (256 : Int) ^ k := by rw [Int.pow_mul]; rfl
theorem pow256_pos (k : Nat) : 0 < (256 : Int) ^ k := Int.pow_pos (by decide)
theorem put_up (k : Nat) (a b : Int) : put k (a * 256 ^ k + b) = put k b := by
  have : ∀ i, i ≤ k → put i (a * 256 ^ k + b) = put i b := by
    intro i
    induction i with
    | zero => intro _; rfl
    | succ i ih =>
      intro hi
      show ((a * 256 ^ k + b) / 2 ^ (8 * i) % 256) :: put i (a * 256 ^ k + b) = (b / 2 ^ (8 * i) % 256) :: put i b
      rw [ih (by omega), pow8]
      congr 1
      obtain ⟨j, rfl⟩ : ∃ j, k = i + 1 + j := ⟨k - (i + 1), by omega⟩
      have e : a * 256 ^ (i + 1 + j) + b = b + 256 ^ i * (256 * (a * 256 ^ j)) := by
        rw [Int.pow_add, Int.pow_succ, Int.add_comm]
        congr 1
        rw [Int.mul_comm a, Int.mul_assoc, Int.mul_assoc, Int.mul_comm (256 ^ j) a]
      rw [e, Int.add_mul_ediv_left _ _ (Int.ne_of_gt (pow256_pos i)), Int.add_mul_emod_self_left]
  exact this k (Nat.le_refl k)
theorem valN_cons (x : Int) (l : List Int) : valN (x :: l) = x.toNat * 256 ^ l.length + valN l := by
  have : ∀ (l : List Int) (a : Nat), l.foldl (fun n x => n * 256 + x.toNat) a = a * 256 ^ l.length + valN l := by
    intro l
    induction l with
    | nil => intro a; simp [valN]
    | cons y r ih =>
      intro a
      rw [List.foldl_cons, ih]
      show _ = a * 256 ^ (r.length + 1) + r.foldl (fun n x => n * 256 + x.toNat) (0 * 256 + y.toNat)
      rw [ih, Nat.pow_succ, Nat.zero_mul, Nat.zero_add, Nat.add_mul, Nat.mul_assoc, Nat.mul_comm 256, Nat.add_assoc]
  unfold valN
  rw [List.foldl_cons, this]
  simp [valN]
theorem val_cons (x : Int) (hx : 0 ≤ x) (l : List Int) : val (x :: l) = x * 256 ^ l.length + val l := by
  unfold val
  rw [valN_cons, Int.natCast_add, Int.natCast_mul, Int.toNat_of_nonneg hx, Int.natCast_pow]
  rfl
theorem val_nonneg (l : List Int) : 0 ≤ val l := Int.natCast_nonneg _
theorem val_lt (l : List Int) (h : Byt l) : val l < 256 ^ l.length := by
  have := valN_lt l h
  unfold val
  have h2 : ((256 ^ l.length : Nat) : Int) = (256 : Int) ^ l.length := by rw [Int.natCast_pow]; rfl
  omega
theorem put_val (l : List Int) (h : Byt l) : put l.length (val l) = l := by
  induction l with
  | nil => rfl
  | cons x r ih =>
    have hx := h x (by simp)
    have hr : Byt r := fun y hy => h y (by simp [hy])
    have h1 := val_lt r hr
    have h0 := val_nonneg r
    rw [val_cons x hx.1]
    show ((x * 256 ^ r.length + val r) / 2 ^ (8 * r.length) % 256) :: put r.length (x * 256 ^ r.length + val r) = _
    rw [put_up, ih hr, pow8, Int.add_comm, Int.add_mul_ediv_right _ _ (Int.ne_of_gt (pow256_pos _)), Int.ediv_eq_zero_of_lt h0 h1]
    congr 1
    omega
theorem val_put (k : Nat) (x : Int) (hx : 0 ≤ x) : val (put k x) = x % 256 ^ k := by
  induction k with
  | zero => show val [] = _; rw [Int.pow_zero, Int.emod_one]; rfl
  | succ k ih =>
    show val ((x / 2 ^ (8 * k) % 256) :: put k x) = _
    rw [val_cons _ (Int.emod_nonneg _ (by decide)), ih, put_len, pow8, Int.pow_succ]
    obtain ⟨n, rfl⟩ := Int.eq_ofNat_of_zero_le hx
    have h := Nat.mod_mul (x := n) (a := 256 ^ k) (b := 256)
    have e : (256 : Int) ^ k = ((256 ^ k : Nat) : Int) := by rw [Int.natCast_pow]; rfl
    rw [e]
    generalize 256 ^ k = q at h ⊢
    have h2 : ((n % (q * 256) : Nat) : Int) = ((n % q + q * (n / q % 256) : Nat) : Int) := by rw [h]
    rw [Int.natCast_emod, Int.natCast_add, Int.natCast_mul, Int.natCast_emod, Int.natCast_mul, Int.natCast_emod, Int.natCast_ediv] at h2
    show (n : Int) / (q : Int) % 256 * (q : Int) + (n : Int) % (q : Int) = (n : Int) % ((q : Int) * 256)
    rw [show ((256 : Nat) : Int) = 256 from rfl] at h2
    rw [h2, Int.mul_comm, Int.add_comm]
/-! ### readers -/
/-- A reader of the program, the reference's, and how what they read is written; ok: what may be written; fine: what the reference takes. -/
structure Good {α : Type} (rd rdR : Rst → α × Rst) (enc : α → List Int) (ok fine : α → Prop) : Prop where
  stays : ∀ s, s.2 = true → (rd s).2.2 = true
  staysR : ∀ s, s.2 = true → (rdR s).2.2 = true
  agree : ∀ s, s.2 = false → (rd s).2.2 = false → fine (rd s).1 → rdR s = rd s
  bads : ∀ s, s.2 = false → (rd s).2.2 = true ∨ ¬ fine (rd s).1 → (rdR s).2.2 = true
  byt : ∀ s, Byt s.1 → Byt (rd s).2.1
  bytR : ∀ s, Byt s.1 → Byt (rdR s).2.1
  sound : ∀ s, Byt s.1 → s.2 = false → (rd s).2.2 = false → s.1 = enc (rd s).1 ++ (rd s).2.1 ∧ ok (rd s).1
  full : ∀ x t, ok x → rd (enc x ++ t, false) = (x, (t, false))
  encb : ∀ x, ok x → Byt (enc x)
theorem good_num (k : Nat) : Good (rnum k) (rnumR k) (put k) (fun x => 0 ≤ x ∧ x < 256 ^ k) (fun _ => True) where
  stays s h := by unfold rnum rtk; split; exact h; rfl
  staysR s h := by unfold rnumR; rw [if_neg (by rw [h]; simp)]
  agree s h h2 _ := by
    obtain ⟨l, b⟩ := s
    obtain rfl : b = false := h
    unfold rnum rtk at h2 ⊢
    unfold rnumR
    by_cases hk : k ≤ l.length
    · rw [if_pos ⟨rfl, hk⟩, if_pos hk]
    · rw [if_neg hk] at h2; cases h2
  bads s h h2 := by
    obtain ⟨l, b⟩ := s
    obtain rfl : b = false := h
    rcases h2 with h2 | h2
    · unfold rnum rtk at h2
      unfold rnumR
      by_cases hk : k ≤ l.length
      · rw [if_pos hk] at h2; cases h2
      · rw [if_neg (fun h => hk h.2)]
    · exact absurd trivial h2
  byt s h := (rtk_byt h).2
  bytR s h := by
    unfold rnumR
    split
    · exact Byt.drop h k
    · exact h
  sound s hb h h2 := by
    obtain ⟨l, b⟩ := s
    unfold rnum rtk at h2 ⊢
    by_cases hk : k ≤ l.length
    · rw [if_pos hk] at h2 ⊢
      have hb2 : Byt (l.take k) := Byt.take hb k
      have hl : (l.take k).length = k := by rw [List.length_take]; omega
      have h1 := put_val _ hb2
      have h3 := val_lt _ hb2
      rw [hl] at h1 h3
      exact ⟨by show l = put k (val (l.take k)) ++ l.drop k; rw [h1, List.take_append_drop], val_nonneg _, h3⟩
    · rw [if_neg hk] at h2; cases h2
  full x t h := by
    unfold rnum rtk
    rw [if_pos (by show k ≤ (put k x ++ t).length; rw [List.length_append, put_len]; omega)]
    show (val ((put k x ++ t).take k), ((put k x ++ t).drop k, false)) = _
    rw [List.take_left' (put_len k x), List.drop_left' (put_len k x), val_put k x h.1, Int.emod_eq_of_lt h.1 h.2]
  encb x _ := put_byt k x
section
variable {α β : Type} {rd rdR : Rst → α × Rst} {enc : α → List Int} {ok fine : α → Prop} {rd2 rdR2 : Rst → β × Rst} {enc2 : β → List Int} {ok2 fine2 : β → Prop}
theorem Good.pair (g : Good rd rdR enc ok fine) (g2 : Good rd2 rdR2 enc2 ok2 fine2) : Good (rdPair rd rd2) (rdPair rdR rdR2) (fun x => enc x.1 ++ enc2 x.2) (fun x => ok x.1 ∧ ok2 x.2) (fun x => fine x.1 ∧ fine2 x.2) where
  stays s h := g2.stays _ (g.stays s h)
  staysR s h := g2.staysR _ (g.staysR s h)
  agree s h h2 h3 := by
    have h4 : (rd s).2.2 = false := by
      cases e : (rd s).2.2 with
      | false => rfl
      | true => have := g2.stays _ e; unfold rdPair at h2; rw [this] at h2; cases h2
    unfold rdPair at h2 h3 ⊢
    rw [g.agree s h h4 h3.1, g2.agree _ h4 h2 h3.2]
  bads s h h2 := by
    show (rdR2 (rdR s).2).2.2 = true
    by_cases h4 : (rd s).2.2 = true ∨ ¬ fine (rd s).1
    · exact g2.staysR _ (g.bads s h h4)
    · have h5 : (rd s).2.2 = false := by
        cases e : (rd s).2.2 with
        | false => rfl
        | true => exact absurd (.inl e) h4
      have h6 : fine (rd s).1 := Classical.byContradiction fun h => h4 (.inr h)
      rw [g.agree s h h5 h6]
      refine g2.bads _ h5 ?_
      rcases h2 with h2 | h2
      · exact .inl h2
      · exact .inr fun h7 => h2 ⟨h6, h7⟩
  byt s h := g2.byt _ (g.byt s h)
  bytR s h := g2.bytR _ (g.bytR s h)
  sound s hb h h2 := by
    have h4 : (rd s).2.2 = false := by
      cases e : (rd s).2.2 with
      | false => rfl
      | true => have := g2.stays _ e; unfold rdPair at h2; rw [this] at h2; cases h2
    obtain ⟨a1, a2⟩ := g.sound s hb h h4
    obtain ⟨b1, b2⟩ := g2.sound _ (g.byt s hb) h4 h2
    exact ⟨by show s.1 = (enc (rd s).1 ++ enc2 (rd2 (rd s).2).1) ++ (rd2 (rd s).2).2.1; rw [List.append_assoc, ← b1, ← a1], a2, b2⟩
  full x t h := by
    unfold rdPair
    rw [List.append_assoc, g.full x.1 _ h.1, g2.full x.2 t h.2]
  encb x h := Byt.append (g.encb _ h.1) (g2.encb _ h.2)
theorem Good.map (g : Good rd rdR enc ok (fun _ => True)) (f : α → β) (u : β → α) (hu : ∀ x, ok x → u (f x) = x) : Good (rdMap rd f) (rdMap rdR f) (fun y => enc (u y)) (fun y => ok (u y) ∧ f (u y) = y) (fun _ => True) where
  stays s h := g.stays s h
  staysR s h := g.staysR s h
  agree s h h2 h3 := by unfold rdMap; rw [g.agree s h h2 trivial]
  bads s h h2 := g.bads s h (h2.imp id id)
  byt s h := g.byt s h
  bytR s h := g.bytR s h
  sound s hb h h2 := by
    obtain ⟨a1, a2⟩ := g.sound s hb h h2
    have e := hu _ a2
    exact ⟨by show s.1 = enc (u (f (rd s).1)) ++ (rd s).2.1; rw [e]; exact a1, by show ok (u (f (rd s).1)) ∧ f (u (f (rd s).1)) = f (rd s).1; rw [e]; exact ⟨a2, rfl⟩⟩
  full y t h := by
    unfold rdMap
    rw [g.full _ t h.1, h.2]
  encb y h := g.encb _ h.1
/-- The program's list of n things. -/
def thg (rd : Rst → α × Rst) : Nat → Rst → List α → List α × Rst
  | 0, s, out => (out, s)
  | n + 1, s, out => if (rd s).2.2 = true then ([], (rd s).2) else thg rd n (rd s).2 (out ++ [(rd s).1])
/-- The reference's. -/
def thgR (rdR : Rst → α × Rst) : Nat → Rst → List α → List α × Rst
  | 0, s, out => (out, s)
  | n + 1, s, out => if s.2 = true then (out, s) else thgR rdR n (rdR s).2 (out ++ [(rdR s).1])
def rdList (rd : Rst → α × Rst) (s : Rst) : List α × Rst := thg rd (rnum 2 s).1.toNat (rnum 2 s).2 []
def rdListR (rdR : Rst → α × Rst) (s : Rst) : List α × Rst := thgR rdR (rnumR 2 s).1.toNat (rnumR 2 s).2 []
theorem thg_stays (g : Good rd rdR enc ok fine) : ∀ (n : Nat) (s : Rst) (out : List α), s.2 = true → (thg rd n s out).2.2 = true := by
  intro n
  induction n with
  | zero => intro s out h; exact h
  | succ n ih =>
    intro s out h
    unfold thg
    rw [if_pos (g.stays s h)]
    exact g.stays s h
theorem thgR_stays (rdR : Rst → α × Rst) : ∀ (n : Nat) (s : Rst) (out : List α), s.2 = true → thgR rdR n s out = (out, s) := by
  intro n
  cases n with
  | zero => intro s out h; rfl
  | succ n => intro s out h; unfold thgR; rw [if_pos h]
theorem thg_byt (g : Good rd rdR enc ok fine) : ∀ (n : Nat) (s : Rst) (out : List α), Byt s.1 → Byt (thg rd n s out).2.1 := by
  intro n
  induction n with
  | zero => intro s out h; exact h
  | succ n ih =>
    intro s out h
    unfold thg
    split
    · exact g.byt s h
    · exact ih _ _ (g.byt s h)
theorem thgR_byt (g : Good rd rdR enc ok fine) : ∀ (n : Nat) (s : Rst) (out : List α), Byt s.1 → Byt (thgR rdR n s out).2.1 := by
  intro n
  induction n with
  | zero => intro s out h; exact h
  | succ n ih =>
    intro s out h
    unfold thgR
    split
    · exact h
    · exact ih _ _ (g.bytR s h)
theorem thg_good (g : Good rd rdR enc ok fine) : ∀ (n : Nat) (s : Rst) (out : List α), s.2 = false → (thg rd n s out).2.2 = false → ∃ l, (thg rd n s out).1 = out ++ l ∧ l.length = n ∧
    (Byt s.1 → s.1 = l.flatMap enc ++ (thg rd n s out).2.1 ∧ ∀ x ∈ l, ok x) ∧ ((∀ x ∈ l, fine x) → thgR rdR n s out = thg rd n s out) ∧ ((¬ ∀ x ∈ l, fine x) → (thgR rdR n s out).2.2 = true) := by
  intro n
  induction n with
  | zero =>
    intro s out h h2
    exact ⟨[], by rw [List.append_nil]; rfl, rfl, fun _ => ⟨rfl, fun x hx => by cases hx⟩, fun _ => rfl, fun h => absurd (fun x hx => by cases hx) h⟩
  | succ n ih =>
    intro s out h h2
    have e : (rd s).2.2 = false := by
      cases e : (rd s).2.2 with
      | false => rfl
      | true => unfold thg at h2; rw [if_pos e, e] at h2; cases h2
    have e1 : thg rd (n + 1) s out = thg rd n (rd s).2 (out ++ [(rd s).1]) := by
      show (if (rd s).2.2 = true then ([], (rd s).2) else thg rd n (rd s).2 (out ++ [(rd s).1])) = _
      rw [if_neg (by rw [e]; simp)]
    have e2 : thgR rdR (n + 1) s out = thgR rdR n (rdR s).2 (out ++ [(rdR s).1]) := by
      show (if s.2 = true then (out, s) else thgR rdR n (rdR s).2 (out ++ [(rdR s).1])) = _
      rw [if_neg (by rw [h]; simp)]
    rw [e1] at h2 ⊢
    obtain ⟨l, l1, l2, l3, l4, l5⟩ := ih _ _ e h2
    refine ⟨(rd s).1 :: l, by rw [l1, List.append_assoc]; rfl, by rw [List.length_cons, l2], fun hb => ?_, fun hf => ?_, fun hf => ?_⟩
    · obtain ⟨b1, b2⟩ := g.sound s hb h e
      obtain ⟨b3, b4⟩ := l3 (g.byt s hb)
      refine ⟨by rw [List.flatMap_cons, List.append_assoc, ← b3, ← b1], fun x hx => ?_⟩
      rcases List.mem_cons.1 hx with rfl | hx
      · exact b2
      · exact b4 x hx
    · rw [e2, g.agree s h e (hf _ (by simp)), l4 fun x hx => hf x (by simp [hx])]
    · rw [e2]
      by_cases f1 : fine (rd s).1
      · rw [g.agree s h e f1]
        exact l5 fun h3 => hf fun x hx => by
          rcases List.mem_cons.1 hx with rfl | hx
          · exact f1
          · exact h3 x hx
      · have := g.bads s h (.inr f1)
        rw [thgR_stays _ _ _ _ this]
        exact this
theorem thg_bads (g : Good rd rdR enc ok fine) : ∀ (n : Nat) (s : Rst) (out : List α), s.2 = false → (thg rd n s out).2.2 = true → (thgR rdR n s out).2.2 = true := by
  intro n
  induction n with
  | zero => intro s out h h2; rw [← h2]; rfl
  | succ n ih =>
    intro s out h h2
    have e2 : thgR rdR (n + 1) s out = thgR rdR n (rdR s).2 (out ++ [(rdR s).1]) := by
      show (if s.2 = true then (out, s) else thgR rdR n (rdR s).2 (out ++ [(rdR s).1])) = _
      rw [if_neg (by rw [h]; simp)]
    rw [e2]
    by_cases e : (rd s).2.2 = true ∨ ¬ fine (rd s).1
    · have := g.bads s h e
      rw [thgR_stays _ _ _ _ this]
      exact this
    · have e3 : (rd s).2.2 = false := by
        cases e3 : (rd s).2.2 with
        | false => rfl
        | true => exact absurd (.inl e3) e
      rw [g.agree s h e3 (Classical.byContradiction fun h => e (.inr h))]
      refine ih _ _ e3 ?_
      have e1 : thg rd (n + 1) s out = thg rd n (rd s).2 (out ++ [(rd s).1]) := by
        show (if (rd s).2.2 = true then ([], (rd s).2) else thg rd n (rd s).2 (out ++ [(rd s).1])) = _
        rw [if_neg (by rw [e3]; simp)]
      rw [← e1]
      exact h2
theorem thg_full (g : Good rd rdR enc ok fine) : ∀ (l : List α) (t : List Int) (out : List α), (∀ x ∈ l, ok x) → thg rd l.length (l.flatMap enc ++ t, false) out = (out ++ l, (t, false)) := by
  intro l
  induction l with
  | nil => intro t out _; rw [List.append_nil]; rfl
  | cons x r ih =>
    intro t out h
    rw [List.length_cons, List.flatMap_cons, List.append_assoc]
    unfold thg
    rw [g.full x _ (h x (by simp)), if_neg (by simp), ih t _ fun y hy => h y (by simp [hy]), List.append_assoc]
    rfl
theorem Good.list (g : Good rd rdR enc ok fine) : Good (rdList rd) (rdListR rdR) (fun l => put 2 l.length ++ l.flatMap enc) (fun l => l.length < 65536 ∧ ∀ x ∈ l, ok x) (fun l => ∀ x ∈ l, fine x) where
  stays s h := thg_stays g _ _ _ ((good_num 2).stays s h)
  staysR s h := by unfold rdListR; rw [thgR_stays _ _ _ _ ((good_num 2).staysR s h)]; exact (good_num 2).staysR s h
  agree s h h2 h3 := by
    have e : (rnum 2 s).2.2 = false := by
      cases e : (rnum 2 s).2.2 with
      | false => rfl
      | true => have := thg_stays g (rnum 2 s).1.toNat _ [] e; unfold rdList at h2; rw [this] at h2; cases h2
    unfold rdListR
    rw [(good_num 2).agree s h e trivial]
    obtain ⟨l, l1, _, _, l4, _⟩ := thg_good g _ _ _ e h2
    refine l4 fun x hx => h3 x ?_
    show x ∈ (thg rd (rnum 2 s).1.toNat (rnum 2 s).2 []).1
    rw [l1]
    exact hx
  bads s h h2 := by
    unfold rdListR
    cases e : (rnum 2 s).2.2 with
    | true =>
      have := (good_num 2).bads s h (.inl e)
      rw [thgR_stays _ _ _ _ this]
      exact this
    | false =>
      rw [(good_num 2).agree s h e trivial]
      cases e2 : (thg rd (rnum 2 s).1.toNat (rnum 2 s).2 []).2.2 with
      | true => exact thg_bads g _ _ _ e e2
      | false =>
        obtain ⟨l, l1, _, _, _, l5⟩ := thg_good g _ _ _ e e2
        refine l5 fun h3 => ?_
        rcases h2 with h2 | h2
        · unfold rdList at h2; rw [e2] at h2; cases h2
        · refine h2 fun x hx => h3 x ?_
          unfold rdList at hx
          rw [l1] at hx
          exact hx
  byt s h := thg_byt g _ _ _ ((good_num 2).byt s h)
  bytR s h := thgR_byt g _ _ _ ((good_num 2).bytR s h)
  sound s hb h h2 := by
    have e : (rnum 2 s).2.2 = false := by
      cases e : (rnum 2 s).2.2 with
      | false => rfl
      | true => have := thg_stays g (rnum 2 s).1.toNat _ [] e; unfold rdList at h2; rw [this] at h2; cases h2
    obtain ⟨a1, a2⟩ := (good_num 2).sound s hb h e
    obtain ⟨l, l1, l2, l3, _, _⟩ := thg_good g _ _ _ e h2
    obtain ⟨b1, b2⟩ := l3 ((good_num 2).byt s hb)
    rw [List.nil_append] at l1
    unfold rdList
    have h3 : (256 : Int) ^ 2 = 65536 := rfl
    have h4 : ((thg rd (rnum 2 s).1.toNat (rnum 2 s).2 []).1.length : Int) = (rnum 2 s).1 := by rw [l1, l2]; omega
    refine ⟨?_, by rw [l1, l2]; omega, by rw [l1]; exact b2⟩
    show s.1 = (put 2 _ ++ _) ++ _
    rw [h4, l1, List.append_assoc, ← b1, ← a1]
  full l t h := by
    have h3 : (256 : Int) ^ 2 = 65536 := rfl
    show rdList rd ((put 2 _ ++ _) ++ t, false) = _
    unfold rdList
    rw [List.append_assoc, (good_num 2).full _ _ ⟨by omega, by omega⟩]
    show thg rd (l.length : Int).toNat _ [] = _
    rw [Int.toNat_natCast, thg_full g l t [] h.2]
    rfl
  encb l h := Byt.append (put_byt _ _) (fun x hx => by
    obtain ⟨y, hy, hx⟩ := List.mem_flatMap.1 hx
    exact g.encb y (h.2 y hy) x hx)
end
end Go.Proofs.Ytjdkpogkhecijaa

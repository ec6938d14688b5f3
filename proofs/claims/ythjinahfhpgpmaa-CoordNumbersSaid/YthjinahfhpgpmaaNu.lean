import Derived.Test.YthjinahfhpgpmaaBd
import Derived.IntWalk
import Derived.Test.YthjinahfhpgpmaaProg
import Derived.Test.YthjinahfhpgpmaaLs
import Derived.Outline
import Derived.StillTailTactics
import Derived.Deep.DeepCutAuto
import Derived.Deep.CutBlock
import Derived.Deep.LoopGhost
import Derived.Deep.QuietTactic
import Derived.BigQuiet
import Derived.Deep.RegionHeld3
import Derived.Deep.RegionLaw
set_option linter.unusedVariables false
set_option linter.unusedSimpArgs false
namespace Go.Proofs.Ythjinahfhpgpmaa
open Go.RowKit
theorem still_same {P : Program} {f : FuncId} {args : Array Value} {w : World} {v : Value}
    (h : Calls P f args w fun e w' => e = .returned v ∧ w = w') : Calls P f args w fun e w'' => e = .returned v ∧ w'' = w :=
  h.mono fun _ _ ⟨he, hm⟩ => ⟨he, hm.symm⟩
abbrev StepRow := Int × Ctl × Int × Int × Int × Bool × Bool
abbrev EStep : Enc StepRow := (Enc.num .i64).pair (ECtl.pair ((Enc.num .u64).pair ((Enc.num .u64).pair ((Enc.num .u64).pair (Enc.flag.pair Enc.flag)))))
def Nums (s : Co) (j : Nat) : Prop := Bd s j j ∧ s.tasks = [0] ∧ s.sinks = [0] ∧ (0 ≤ s.epoch ∧ s.epoch ≤ j) ∧ (0 ≤ s.under ∧ s.under ≤ s.last)
theorem Nums.next {s : Co} {j : Nat} (h : Nums s j) : Nums s (j + 1) := ⟨h.1.mono (by omega) (by omega), h.2.1, h.2.2.1, ⟨h.2.2.2.1.1, by have := h.2.2.2.1.2; omega⟩, h.2.2.2.2⟩
theorem nums_new (i t : Int) : Nums (Co.new [0] [0] i t) 0 := by
  have h1 : clampC t = min (max t 1) 1000 := rfl
  refine ⟨⟨⟨Int.le_refl _, Int.le_refl _⟩, ⟨Int.le_refl _, Int.le_refl _⟩, ⟨Int.le_refl _, Int.le_refl _⟩, ?_, ⟨Int.le_refl _, Int.le_refl _⟩, ?_⟩, rfl, rfl, ⟨Int.le_refl _, Int.le_refl _⟩, ⟨Int.le_refl _, Int.le_refl _⟩⟩
  · show 0 ≤ clampC t ∧ clampC t ≤ _; omega
  · show 0 ≤ clampC t ∧ clampC t ≤ _; omega
theorem nums_take {s : Co} {j : Nat} (h : Nums s j) (m : Ctl) : Nums (s.take m).1 j ∧ (s.take m).1.epoch = s.epoch ∧ (s.take m).1.last = s.last := by
  obtain ⟨h1, h2, h3, _, h5, h6⟩ := take_bd h.1 m
  exact ⟨⟨h1, h2.tasks.trans h.2.1, h2.sinks.trans h.2.2.1, by rw [h3]; exact h.2.2.2.1, by rw [h6, h5]; exact h.2.2.2.2⟩, h3, h5⟩
theorem nums_store {s : Co} {j : Nat} (h : Nums s j) (n : Int) (ok : Bool) : Nums (s.store n ok).1 j ∧ (s.store n ok).1.epoch = s.epoch ∧ (s.store n ok).1.last = s.last := by
  obtain ⟨h1, h2, h3, h5⟩ := store_bd h.1 n ok
  refine ⟨⟨h1, h2.tasks.trans h.2.1, h2.sinks.trans h.2.2.1, by rw [h3]; exact h.2.2.2.1, ?_⟩, h3, h5⟩
  rw [h5]
  have := h.2.2.2.2
  unfold Co.store
  split
  · exact this
  split
  · exact ⟨Int.le_refl _, by show (0 : Int) ≤ _; omega⟩
  · exact ⟨Int.le_refl _, by show (0 : Int) ≤ _; omega⟩
theorem nums_begin {s : Co} {j : Nat} (h : Nums s j) (d : Int) : Nums (s.begin (s.epoch + 1) d s.last).1 (j + 1) ∧ (s.begin (s.epoch + 1) d s.last).1.epoch = s.epoch + 1 ∧ (s.begin (s.epoch + 1) d s.last).1.last = s.last := by
  unfold Co.begin
  rw [if_neg (by omega)]
  have h1 := h.1
  refine ⟨⟨⟨⟨Int.le_refl _, by show (0 : Int) ≤ _; omega⟩, ⟨Int.le_refl _, by show (0 : Int) ≤ _; omega⟩, ⟨Int.le_refl _, by show (0 : Int) ≤ _; omega⟩, h1.tout, ?_, h1.tout⟩, h.2.1, h.2.2.1, ?_, ?_⟩, rfl, ?_⟩
  · show 0 ≤ max s.last s.last ∧ max s.last s.last ≤ _; have := h1.last; omega
  · show 0 ≤ s.epoch + 1 ∧ s.epoch + 1 ≤ _; have := h.2.2.2.1; omega
  · show (0 : Int) ≤ 0 ∧ (0 : Int) ≤ max s.last s.last; have := h1.last; omega
  · show max s.last s.last = _; omega
theorem tell_kind (s : Co) (kind n : Int) (l : List Int) (but : Int → Bool) : ∀ x ∈ s.tell kind n l but, x.1 = kind ∧ x.2.2.1 = n := by
  intro x hx
  obtain ⟨t, _, rfl⟩ := List.mem_map.1 hx
  exact ⟨rfl, rfl⟩
theorem nums_tick {s : Co} {j : Nat} (h : Nums s j) : Nums s.tick.1 (j + 1) ∧ s.tick.1.epoch = s.epoch ∧
    ((s.tick.1.last = s.last ∧ ∀ x ∈ s.tick.2, x.1 = 1 → x.2.2.1 = s.under) ∨
     (s.tick.1.last = s.last + 1 ∧ ∃ pre y, s.tick.2 = pre ++ [y] ∧ y.1 = 1 ∧ y.2.2.1 = s.last + 1 ∧ ∀ x ∈ pre, x.1 ≠ 1)) := by
  obtain ⟨h1, h2, h3, _⟩ := tick_bd h.1
  have hu := h.2.2.2.2
  have key : (0 ≤ s.tick.1.under ∧ s.tick.1.under ≤ s.tick.1.last) ∧ ((s.tick.1.last = s.last ∧ ∀ x ∈ s.tick.2, x.1 = 1 → x.2.2.1 = s.under) ∨
     (s.tick.1.last = s.last + 1 ∧ ∃ pre y, s.tick.2 = pre ++ [y] ∧ y.1 = 1 ∧ y.2.2.1 = s.last + 1 ∧ ∀ x ∈ pre, x.1 ≠ 1)) := by
    unfold Co.tick
    split
    · exact ⟨hu, .inl ⟨rfl, fun x hx => by cases hx⟩⟩
    split
    · exact ⟨hu, .inl ⟨rfl, fun x hx h1 => by have := (tell_kind _ _ _ _ _ x hx).1; rw [this] at h1; exact absurd h1 (by decide)⟩⟩
    have ho : ∀ x ∈ s.outs, x.1 ≠ 1 := fun x hx h1 => by
      unfold Co.outs at hx
      split at hx
      · cases hx
      · have := (tell_kind _ _ _ _ _ x hx).1; rw [this] at h1; exact absurd h1 (by decide)
    have hm : s.mid.last = s.last ∧ s.mid.tasks = [0] ∧ (s.mid.under = 0 ∨ s.mid.under = s.under) := by
      unfold Co.mid
      split
      · exact ⟨rfl, h.2.1, .inl rfl⟩
      · exact ⟨rfl, h.2.1, .inr rfl⟩
    unfold Co.go
    split
    · have hl : s.mid.start.last = s.last + 1 := by show s.mid.last + 1 = _; rw [hm.1]
      have hun : s.mid.start.under = s.last + 1 := by show s.mid.last + 1 = _; rw [hm.1]
      refine ⟨⟨by show 0 ≤ s.mid.start.under; omega, by show s.mid.start.under ≤ s.mid.start.last; omega⟩, .inr ⟨hl, s.outs, (1, s.mid.start.epoch, s.mid.start.under, 0), ?_, rfl, hun, ho⟩⟩
      show s.outs ++ s.mid.start.tell 1 s.mid.start.under s.mid.tasks nobody = _
      rw [hm.2.1]
      rfl
    split
    · rename_i hc
      have hne : s.mid.under ≠ 0 := by
        intro e
        rw [e] at hc
        simp at hc
      have he : s.mid.under = s.under := by rcases hm.2.2 with e | e; exact absurd e hne; exact e
      refine ⟨⟨by show 0 ≤ s.mid.under; omega, by show s.mid.under ≤ s.mid.last; omega⟩, .inl ⟨hm.1, fun x hx h1 => ?_⟩⟩
      rcases List.mem_append.1 hx with hx | hx
      · exact absurd h1 (ho x hx)
      · rw [(tell_kind _ _ _ _ _ x hx).2, he]
    · refine ⟨?_, .inl ⟨hm.1, fun x hx h1 => absurd h1 (ho x hx)⟩⟩
      rcases hm.2.2 with e | e
      · exact ⟨by show 0 ≤ s.mid.under; omega, by show s.mid.under ≤ s.mid.last; omega⟩
      · exact ⟨by show 0 ≤ s.mid.under; omega, by show s.mid.under ≤ s.mid.last; omega⟩
  exact ⟨⟨h1.mono (by omega) (by omega), h2.tasks.trans h.2.1, h2.sinks.trans h.2.2.1, by rw [h3]; exact ⟨h.2.2.2.1.1, by have := h.2.2.2.1.2; omega⟩, key.1⟩, h3, key.2⟩
theorem steprow_cells {w : World} {g off n c : Nat} {xs : List StepRow} {k : Nat} {wh k0 k1 k2 k3 a b d : Int} {o1 o2 : Bool} (H : RdL EStep w (.slice (some ⟨g, off, none⟩) n c) xs) (hx : xs[k]? = some (wh, (k0, k1, k2, k3), a, b, d, o1, o2)) :
    w.cell? ⟨g, off + k * 10, none⟩ = some (.int .i64 wh) ∧ w.cell? ⟨g, off + k * 10 + 1, none⟩ = some (.int .i64 k0) ∧ w.cell? ⟨g, off + k * 10 + 2, none⟩ = some (.int .u64 k1) ∧ w.cell? ⟨g, off + k * 10 + 3, none⟩ = some (.int .u64 k2) ∧ w.cell? ⟨g, off + k * 10 + 4, none⟩ = some (.int .i64 k3) ∧
    w.cell? ⟨g, off + k * 10 + 5, none⟩ = some (.int .u64 a) ∧ w.cell? ⟨g, off + k * 10 + 6, none⟩ = some (.int .u64 b) ∧ w.cell? ⟨g, off + k * 10 + 7, none⟩ = some (.int .u64 d) ∧ w.cell? ⟨g, off + k * 10 + 8, none⟩ = some (.bool o1) ∧ w.cell? ⟨g, off + k * 10 + 9, none⟩ = some (.bool o2) :=
  ⟨H.cell hx 0 rfl, H.cell hx 1 rfl, H.cell hx 2 rfl, H.cell hx 3 rfl, H.cell hx 4 rfl, H.cell hx 5 rfl, H.cell hx 6 rfl, H.cell hx 7 rfl, H.cell hx 8 rfl, H.cell hx 9 rfl⟩
set_option maxRecDepth 100000 in
set_option maxHeartbeats 8000000 in
theorem coordnumbers_walk (i0 t0 : Int) (Al : Option Addr) (nl cl : Nat) (xs : List StepRow) (w : World) (hi : (Lit.int .i64 i0).wf = true) (ht : (Lit.int .i64 t0).wf = true) (hr : RdL EStep w (.slice Al nl cl) xs) (hok : ∀ x ∈ xs, True) :
    Calls Try.prog 6 #[.int .i64 i0, .int .i64 t0, .slice Al nl cl] w fun e w' => e = .returned (.bool true) ∧ Below w.heap.size w w' := by
  clear hi ht hok
  have hcap := hr.caps.2
  have hxl := Lib.hid hr.caps.1
  replace hr := Lib.hid hr
  rcases (show (400 : Int) < (nl : Int) ∨ (nl : Int) ≤ 400 by omega) with h3 | h3
  · go_enter Try.func6, Try.ntmps6
    go_wp2_with fail
    refine (known8 w w _ (Hs.start w)).mono ?_
    rintro e w1 ⟨rfl, H⟩
    go_wp2_with fail
    go_ret
    exact ⟨rfl, H.under_old⟩
  go_enter Try.func6, Try.ntmps6
  go_wp2_with fail
  refine (known8 w w _ (Hs.start w)).mono ?_
  rintro e w1 ⟨rfl, H⟩
  go_wp2_with fail
  have H1 := (H.ls_lit (Enc.num .i64) 3 [0] _ rfl 1 rfl (by omega)).ls_lit (Enc.num .i64) 3 [0] _ rfl 1 rfl (by omega)
  have hsz : ∀ (w : World) (o : Obj), (w.alloc o).heap.size = w.heap.size + 1 := fun w o => Array.size_push ..
  simp only [hsz] at H1
  clear hsz
  refine (new10 _ _ [0] [0] i0 t0 _ w _ H1 (fun w' h => h.at1.ls_rd) (fun w' h => h.ls_rd) (by decide) (by decide)).mono ?_
  have hn0 := Lib.hid (nums_new i0 t0)
  have he0 : Hid ((Co.new [0] [0] i0 t0).epoch = 0 ∧ (Co.new [0] [0] i0 t0).last = 0) := ⟨rfl, rfl⟩
  generalize Co.new [0] [0] i0 t0 = s0 at *
  rintro e w2 ⟨p, v, rfl, H2⟩
  replace H2 := Lib.hid H2.at1.tail.at1.tail
  clear H H1
  go_wp2_with fail
  go_loopg [8, 9, 10] nl (fun k lv ev iv wr => ∃ (j : Nat) (s : Co), k + j = nl ∧ iv = .int .i64 j ∧ lv = .int .u64 s.last ∧ ev = .int .u64 s.epoch ∧ Hid (Nums s j) ∧ Hid (Hs w wr [CoV p v s, Old w]))
  case atStart => exact ⟨0, s0, rfl, rfl, by rw [he0.out.2], by rw [he0.out.1], hn0, H2⟩
  case round =>
    clear H2 hn0 he0
    obtain ⟨j, s, hk, rfl, rfl, rfl, hN, H⟩ := hrel
    replace hk := Lib.hid hk
    rcases Nat.lt_or_ge j nl with hj | hj
    · have hj0 : (0 : Int) ≤ (j : Int) := by omega
      have hj1 : (j : Int) < (nl : Int) := by omega
      have hw6 : IntKind.i64.wrap ((j : Int) + 1) = ((j + 1 : Nat) : Int) := by rw [IntWalk.i64_in _ (by omega)]; omega
      have hw7 : IntKind.u64.wrap (s.epoch + 1) = s.epoch + 1 := IntWalk.u64_in _ (by have := hN.out.2.2.2.1; omega)
      have hlt : Hid (s.tasks.length ≤ 1000 ∧ s.sinks.length ≤ 1000) := by show _ ∧ _; rw [hN.out.2.1, hN.out.2.2.1]; decide
      obtain ⟨x, hx⟩ : ∃ x, xs[j]? = some x := ⟨_, List.getElem?_eq_getElem (by have := hxl.out; omega)⟩
      have hrd := hr.out.old H.out.at1
      obtain ⟨g, off, rfl⟩ := hrd.some_ (by have := hxl.out; omega)
      obtain ⟨wh, ⟨k0, k1, k2, k3⟩, a, b, d, o1, o2⟩ := x
      obtain ⟨e0, e1, e2, e3, e4, e5, e6, e7, e8, e9⟩ := steprow_cells hrd hx
      clear hx hrd
      go_upto_region 11 with (fail)
      have H1 := Lib.hid (H.out.alloc (.cells #[.int .i64 wh, .int .i64 k0, .int .u64 k1, .int .u64 k2, .int .i64 k3, .int .u64 a, .int .u64 b, .int .u64 d, .bool o1, .bool o2] 44)).at1
      clear H e0 e1 e2 e3 e4 e5 e6 e7 e8 e9
      generalize hsz : wr.heap.size = bm at H1 ⊢
      clear hsz
      generalize World.alloc _ _ = w4 at H1 ⊢
      have b0 : w4.cell? ⟨bm, 0, none⟩ = some (.int .i64 wh) := H1.out.at1.cellOf 0 rfl
      have b1 : w4.cell? ⟨bm, 1, none⟩ = some (.int .i64 k0) := H1.out.at1.cellOf 1 rfl
      have b8 : w4.cell? ⟨bm, 8, none⟩ = some (.bool o1) := H1.out.at1.cellOf 8 rfl
      by_cases w8 : wh = 8
      · subst w8
        go_wp2_with fail
        go_still_tail 5, mixed
        still_call (still_same (by refine (under17 p v s _ w _ H1.out.drew).mono ?_; rintro e w1 ⟨rfl, rfl⟩; exact ⟨rfl, rfl⟩))
        repeat still_step
        refine wpStill_nil ?_
        change wpList _ _ _ _ _ w4.drew
        have H2 := Lib.hid H1.out.drew
        clear b0 b1 b8 H1
        generalize w4.drew = w5 at *
        go_wp2_with (go_at_call 15; refine (stored15 p v s _ w _ H2.out s.under o1 hlt.out.2).mono ?_)
        rintro e w6 ⟨A3, c3, rfl, H3⟩
        obtain ⟨n1, n2, n3⟩ := nums_store hN.out s.under o1
        replace n1 := Lib.hid n1.next
        replace n2 := Lib.hid n2
        replace n3 := Lib.hid n3
        have H4 := Lib.hid H3.tail.at1.tail
        clear H2 H3
        go_wp2_with fail
        go_roundg (nl - (j + 1))
        case measure => have := hk.out; omega
        case rel => exact ⟨j + 1, _, by have := hk.out; omega, by go_num, by rw [n3.out], by rw [n2.out], n1, H4⟩
      have w8' : (wh == 8) = false := by rw [beq_eq_false_iff_ne]; exact w8
      by_cases w9 : wh = 9
      · subst w9
        clear w8
        go_wp2_with fail
        refine (durable13 p v s _ w _ H1.out).mono ?_
        rintro e w5 ⟨rfl, rfl⟩
        go_wp2_with fail
        refine (begin11 p v s _ w _ H1.out (s.epoch + 1) s.durable s.last hlt.out.1).mono ?_
        rintro e w6 ⟨A3, c3, rfl, H3⟩
        obtain ⟨n1, n2, n3⟩ := nums_begin hN.out s.durable
        replace n1 := Lib.hid n1
        replace n2 := Lib.hid n2
        replace n3 := Lib.hid n3
        have H4 := Lib.hid H3.tail.at1.tail
        clear H1 H3 b0 b1 b8
        go_wp2_with fail
        go_roundg (nl - (j + 1))
        case measure => have := hk.out; omega
        case rel => exact ⟨j + 1, _, by have := hk.out; omega, by go_num, by rw [n3.out], by rw [n2.out], n1, H4⟩
      have w9' : (wh == 9) = false := by rw [beq_eq_false_iff_ne]; exact w9
      by_cases wt : wh = 4 ∨ wh = 5 ∨ wh = 6 ∨ wh = 7
      · rcases wt with rfl | rfl | rfl | rfl
        all_goals
          clear w8 w9 w8' w9'
          by_cases c6 : k0 = 6
          · subst c6
            go_wp2_with fail
            refine (under17 p v s _ w _ H1.out).mono ?_
            rintro e w5 ⟨rfl, rfl⟩
            go_wp2_with fail
            refine (durable13 p v s _ w _ H1.out).mono ?_
            rintro e w5 ⟨rfl, rfl⟩
            go_wp2_with fail
            go_still_tail 8, mixed
            repeat still_step
            still_call (still_same (by refine (epoch20 p v s _ w _ H1.out.drew).mono ?_; rintro e w1 ⟨rfl, rfl⟩; exact ⟨rfl, rfl⟩))
            repeat still_step
            refine wpStill_nil ?_
            first | (change wpList _ _ _ _ _ w4.drew; obtain ⟨wz, hwz⟩ : ∃ wz, wz = w4 := ⟨_, rfl⟩) | (change wpList _ _ _ _ _ w5.drew; obtain ⟨wz, hwz⟩ : ∃ wz, wz = w5 := ⟨_, rfl⟩)
            rw [← hwz] at H1 b0 b1 b8 ⊢
            clear hwz
            have H2 := Lib.hid H1.out.drew
            clear b0 b1 b8 H1
            generalize wz.drew = w7 at *
            go_wp2_with (go_at_call 14; refine (take14 p v s _ w _ H2.out 6 s.epoch s.durable 0 hlt.out.1).mono ?_)
            rintro e w6 ⟨rfl, H3⟩
            obtain ⟨n1, n2, n3⟩ := nums_take hN.out (6, s.epoch, s.durable, 0)
            replace n1 := Lib.hid n1.next
            replace n2 := Lib.hid n2
            replace n3 := Lib.hid n3
            have H4 := Lib.hid H3.at1.tail
            clear H2 H3
            go_wp2_with fail
            go_roundg (nl - (j + 1))
            case measure => have := hk.out; omega
            case rel => exact ⟨j + 1, _, by have := hk.out; omega, by go_num, by rw [n3.out], by rw [n2.out], n1, H4⟩
          · have c6' : (k0 == 6) = false := by rw [beq_eq_false_iff_ne]; exact c6
            clear c6
            go_wp2_with fail
            refine (under17 p v s _ w _ H1.out).mono ?_
            rintro e w5 ⟨rfl, rfl⟩
            go_wp2_with fail
            go_still_tail 8, mixed
            repeat still_step
            still_call (still_same (by refine (epoch20 p v s _ w _ H1.out.drew).mono ?_; rintro e w1 ⟨rfl, rfl⟩; exact ⟨rfl, rfl⟩))
            repeat still_step
            refine wpStill_nil ?_
            first | (change wpList _ _ _ _ _ w4.drew; obtain ⟨wz, hwz⟩ : ∃ wz, wz = w4 := ⟨_, rfl⟩) | (change wpList _ _ _ _ _ w5.drew; obtain ⟨wz, hwz⟩ : ∃ wz, wz = w5 := ⟨_, rfl⟩)
            rw [← hwz] at H1 b0 b1 b8 ⊢
            clear hwz
            have H2 := Lib.hid H1.out.drew
            clear b0 b1 b8 H1
            generalize wz.drew = w7 at *
            go_wp2_with (go_at_call 14; refine (take14 p v s _ w _ H2.out k0 s.epoch s.under 0 hlt.out.1).mono ?_)
            rintro e w6 ⟨rfl, H3⟩
            obtain ⟨n1, n2, n3⟩ := nums_take hN.out (k0, s.epoch, s.under, 0)
            replace n1 := Lib.hid n1.next
            replace n2 := Lib.hid n2
            replace n3 := Lib.hid n3
            have H4 := Lib.hid H3.at1.tail
            clear H2 H3
            go_wp2_with fail
            go_roundg (nl - (j + 1))
            case measure => have := hk.out; omega
            case rel => exact ⟨j + 1, _, by have := hk.out; omega, by go_num, by rw [n3.out], by rw [n2.out], n1, H4⟩
      have w4' : (wh == 4) = false := by rw [beq_eq_false_iff_ne]; omega
      have w5' : (wh == 5) = false := by rw [beq_eq_false_iff_ne]; omega
      have w6' : (wh == 6) = false := by rw [beq_eq_false_iff_ne]; omega
      have w7' : (wh == 7) = false := by rw [beq_eq_false_iff_ne]; omega
      clear w8 w9 wt
      go_wp2_with fail
      refine (under17 p v s _ w _ H1.out).mono ?_
      rintro e w5 ⟨rfl, rfl⟩
      go_wp2_with fail
      refine (ticks12 p v s _ w _ H1.out j j hN.out.1 (by omega) (by omega) hlt.out.1 hlt.out.2).mono ?_
      rintro e w6 ⟨A3, c3, rfl, H3⟩
      obtain ⟨n1, n2, n3⟩ := nums_tick hN.out
      have H4 := Lib.hid H3.at2.tail
      clear H1 H3 b0 b1 b8
      replace n1 := Lib.hid n1
      replace n2 := Lib.hid n2
      obtain ⟨out, hout⟩ : ∃ out, s.tick.2 = out := ⟨_, rfl⟩
      obtain ⟨s', hs'⟩ : ∃ s', s.tick.1 = s' := ⟨_, rfl⟩
      rw [hout] at n3 H4 ⊢
      rw [hs'] at n1 n2 n3 H4
      clear hout hs'
      have hcap2 := H4.out.ls_rd.caps.2
      obtain ⟨M, hM⟩ : ∃ M, out.length = M := ⟨_, rfl⟩
      rw [hM] at H4 hcap2 ⊢
      replace hM := Lib.hid hM
      go_wp2_with fail
      rcases n3 with ⟨n3, n4⟩ | ⟨n3, pre, y, n4, n5, n6, n7⟩
      · replace n3 := Lib.hid n3
        replace n4 := Lib.hid n4
        go_loopg [8, 15] M (fun m lv kv wr2 => ∃ k : Nat, m + k = M ∧ kv = .int .i64 k ∧ lv = .int .u64 s.last ∧ Hid (wr2 = w6))
        case atStart => exact ⟨0, rfl, rfl, rfl, Lib.hid rfl⟩
        case round =>
          obtain ⟨k, hkk, rfl, rfl, hw0⟩ := hrel
          have hw0 := hw0.out
          subst hw0
          replace hkk := Lib.hid hkk
          rcases Nat.lt_or_ge k M with hkM | hkM
          · have hk0 : (0 : Int) ≤ (k : Int) := by omega
            have hk1 : (k : Int) < (M : Int) := by omega
            have hw8 : IntKind.i64.wrap ((k : Int) + 1) = ((k + 1 : Nat) : Int) := by rw [IntWalk.i64_in _ (by omega)]; omega
            obtain ⟨z, hz⟩ : ∃ z, out[k]? = some z := ⟨_, List.getElem?_eq_getElem (by have := hM.out; omega)⟩
            obtain ⟨g2, o2', rfl⟩ := H4.out.ls_rd.some_ (by have := hM.out; omega)
            obtain ⟨z0, _, z2, _⟩ := ctl_cells H4.out.ls_rd hz
            have hzz : z.1 = 1 → z.2.2.1 = s.under := n4.out z (List.mem_of_getElem? hz)
            obtain ⟨za, zb, zc, zd⟩ := z
            simp only at z0 z2 hzz
            by_cases hz1 : za = 1
            · have hz2 := hzz hz1
              subst hz1 hz2
              clear hzz hz
              go_wp2_with fail
              go_roundg (M - (k + 1))
              case measure => have := hkk.out; omega
              case rel => exact ⟨k + 1, by have := hkk.out; omega, by go_num, rfl, Lib.hid rfl⟩
            · have hz1' : (za != 1) = true := by rw [bne_iff_ne]; exact hz1
              clear hzz hz hz1
              go_wp2_with fail
              go_roundg (M - (k + 1))
              case measure => have := hkk.out; omega
              case rel => exact ⟨k + 1, by have := hkk.out; omega, by go_num, rfl, Lib.hid rfl⟩
          · have hk1 : decide ((k : Int) < (M : Int)) = false := by rw [decide_eq_false_iff_not]; omega
            have hk2 : decide (k < M) = false := by rw [decide_eq_false_iff_not]; omega
            clear hkM
            go_wp2_with fail
            go_roundg (nl - (j + 1))
            case measure => have := hk.out; omega
            case rel => exact ⟨j + 1, s', by have := hk.out; omega, by go_num, by rw [n3.out], by rw [n2.out], n1, Lib.hid H4.out.tail⟩
      · have hpl : Hid (M = pre.length + 1) := by show _ = _; have := hM.out; rw [n4, List.length_append, List.length_singleton] at this; omega
        obtain ⟨L, hL⟩ : ∃ L, pre.length = L := ⟨_, rfl⟩
        rw [hL] at hpl
        have hg : Hid (∀ k, k < L → ∃ z, out[k]? = some z ∧ z.1 ≠ 1) := fun k hk => ⟨pre[k]'(by omega), by rw [n4, List.getElem?_append_left (by omega)]; exact List.getElem?_eq_getElem _, n7 _ (List.getElem_mem _)⟩
        have hy : Hid (out[L]? = some y) := by show _ = _; rw [n4, List.getElem?_append_right (by omega), hL]; simp
        replace n3 := Lib.hid n3
        have hls : 0 ≤ s.last ∧ s.last ≤ 1000 := by have := hN.out.1.last; omega
        have hus : s.last + 1 ≠ s.under := by have := hN.out.2.2.2.2; omega
        have hus' : ((s.last + 1) == s.under) = false := by rw [beq_eq_false_iff_ne]; exact hus
        have hll : decide (s.last + 1 ≤ s.last) = false := by rw [decide_eq_false_iff_not]; omega
        clear n4 n7 hL hus
        go_loopg [8, 15] M (fun m lv kv wr2 => ∃ k : Nat, m + k = M ∧ kv = .int .i64 k ∧ lv = .int .u64 (if k ≤ L then s.last else s.last + 1) ∧ Hid (wr2 = w6))
        case atStart => exact ⟨0, rfl, rfl, by rw [if_pos (Nat.zero_le _)], Lib.hid rfl⟩
        case round =>
          obtain ⟨k, hkk, rfl, rfl, hw0⟩ := hrel
          have hw0 := hw0.out
          subst hw0
          replace hkk := Lib.hid hkk
          rcases Nat.lt_or_ge k M with hkM | hkM
          · have hk0 : (0 : Int) ≤ (k : Int) := by omega
            have hk1 : (k : Int) < (M : Int) := by omega
            have hw8 : IntKind.i64.wrap ((k : Int) + 1) = ((k + 1 : Nat) : Int) := by rw [IntWalk.i64_in _ (by omega)]; omega
            have hkL : k ≤ L := by have := hpl.out; omega
            rw [if_pos hkL]
            obtain ⟨g2, o2', rfl⟩ := H4.out.ls_rd.some_ (by have := hM.out; omega)
            rcases Nat.lt_or_ge k L with hk5 | hk5
            · obtain ⟨z, hz, hz1⟩ := hg.out k hk5
              obtain ⟨z0, _, z2, _⟩ := ctl_cells H4.out.ls_rd hz
              obtain ⟨za, zb, zc, zd⟩ := z
              simp only at z0 z2 hz1
              have hz1' : (za != 1) = true := by rw [bne_iff_ne]; exact hz1
              clear hz hz1
              go_wp2_with fail
              go_roundg (M - (k + 1))
              case measure => have := hkk.out; omega
              case rel => exact ⟨k + 1, by have := hkk.out; omega, by go_num, by rw [if_pos (by omega)], Lib.hid rfl⟩
            · have hkL2 : k = L := by omega
              have hz := hy.out
              rw [← hkL2] at hz
              obtain ⟨z0, _, z2, _⟩ := ctl_cells H4.out.ls_rd hz
              rw [n5] at z0
              rw [n6] at z2
              clear hz hkL2 hkL
              go_wp2_with fail
              go_roundg (M - (k + 1))
              case measure => have := hkk.out; omega
              case rel => exact ⟨k + 1, by have := hkk.out; omega, by go_num, by rw [if_neg (by omega)], Lib.hid rfl⟩
          · have hk1 : decide ((k : Int) < (M : Int)) = false := by rw [decide_eq_false_iff_not]; omega
            have hk2 : decide (k < M) = false := by rw [decide_eq_false_iff_not]; omega
            have hkL : ¬ k ≤ L := by have := hpl.out; omega
            rw [if_neg hkL]
            clear hkM hkL
            go_wp2_with fail
            go_roundg (nl - (j + 1))
            case measure => have := hk.out; omega
            case rel => exact ⟨j + 1, s', by have := hk.out; omega, by go_num, by rw [n3.out], by rw [n2.out], n1, Lib.hid H4.out.tail⟩
    · have hj1 : decide ((j : Int) < (nl : Int)) = false := by rw [decide_eq_false_iff_not]; omega
      have hj2 : decide (j < nl) = false := by rw [decide_eq_false_iff_not]; omega
      clear hj
      go_wp2_with fail
      go_ret
      exact ⟨rfl, H.out.tail.under_old⟩
end Go.Proofs.Ythjinahfhpgpmaa

import Derived.Test.YtjlonfldcmcchaaPc
import Derived.Test.YtjlonfldcmcchaaProg
import Derived.Test.YtjlonfldcmcchaaLs
import Derived.Outline
import Derived.StillTailTactics
import Derived.Deep.DeepCutAuto
import Derived.Deep.CutBlock
import Derived.Deep.LoopGhost
import Derived.Deep.QuietTactic
import Derived.BigQuiet
import Derived.Deep.RegionHeld3
import Derived.Deep.RegionLaw
set_option linter.unusedVariables false
set_option linter.unusedSimpArgs false
namespace Go.Proofs.Ytjlonfldcmcchaa
open Go.RowKit
theorem TxS.any : ∀ (vs : List (Int × Slc)) (xs : List (Int × List Rec)) (t : Int) {w0 w : World} {R : List HP}, Hs w0 w (TxS vs xs :: R) → vs.any (fun x => x.1 == t) = xs.any (fun x => x.1 == t)
  | [], [], _, _, _, _, _ => rfl
  | [], _ :: _, _, _, _, _, H => by obtain ⟨_, _, h⟩ := H.get; exact h.elim
  | _ :: _, [], _, _, _, _, H => by obtain ⟨_, _, h⟩ := H.get; exact h.elim
  | v :: vs, x :: xs, t, _, _, _, H => by
    have h := Hs.part (A := Pu (v.1 = x.1) (Ls ERec 39 (.slice v.2.1 v.2.2.1 v.2.2.2) x.2)) (B := TxS vs xs) H
    rw [List.any_cons, List.any_cons, TxS.any vs xs t h.tail, h.pu.1]
def Pt.fresh (s : Pt) (t : Int) : List (Int × List Rec) := (s.l.drop s.dn).takeWhile fun x => decide (x.1 ≤ t)
def Lg.commit (s : Lg) (n t : Int) : Lg := ⟨upd s.pt n ⟨(s.pt n).l, (s.pt n).dn + ((s.pt n).fresh t).length⟩, s.all ++ ((s.pt n).fresh t).flatMap (·.2)⟩
theorem takeWhile_eq {α : Type} (p : α → Bool) (l : List α) (k : Nat) (h : ∀ x ∈ l.take k, p x = true) (he : l.length ≤ k ∨ ∃ x, l[k]? = some x ∧ p x = false) : l.takeWhile p = l.take k := by
  induction l generalizing k with
  | nil => simp
  | cons a l ih =>
    cases k with
    | zero =>
      rcases he with he | ⟨x, hx, hp⟩
      · simp at he
      · simp at hx
        subst hx
        simp [hp]
    | succ k =>
      have ha := h a (by simp)
      rw [List.takeWhile_cons_of_pos ha, List.take_succ_cons, ih k (fun x hx => h x (by simp [hx])) (by simpa using he)]
theorem seg_bound {l : List (Int × List Rec)} {dn d : Nat} {x : Int × List Rec} (h : dn ≤ d) (hx : l[d]? = some x) :
    (l.drop dn).take (d + 1 - dn) = (l.drop dn).take (d - dn) ++ [x] ∧ (((l.drop dn).take (d - dn)).flatMap (·.2)).length + x.2.length ≤ (l.flatMap (·.2)).length := by
  have h1 : (l.drop dn).take (d + 1 - dn) = (l.drop dn).take (d - dn) ++ [x] := by
    rw [show d + 1 - dn = (d - dn) + 1 by omega, List.take_add_one, List.getElem?_drop, show dn + (d - dn) = d by omega, hx]
    rfl
  refine ⟨h1, ?_⟩
  have h2 : l = l.take dn ++ ((l.drop dn).take (d + 1 - dn) ++ (l.drop dn).drop (d + 1 - dn)) := by rw [List.take_append_drop, List.take_append_drop]
  rw [h1] at h2
  have h3 := congrArg (fun l => (l.flatMap (·.2)).length) h2
  simp only [List.flatMap_append, List.length_append, List.flatMap_cons, List.flatMap_nil, List.append_nil] at h3
  omega
section
variable (lp : Nat) (n t : Int) (s : Lg) (w w0 : World) (R : List HP) (H : Hs w0 w (Log lp s :: R)) (hs : (s.pt n).Ok)
include H hs
set_option maxRecDepth 100000 in
theorem commit_old (ht : t ≤ (s.pt n).last) :
    Calls Try.prog 13 #[.pointer (some ⟨lp, 0, none⟩), .int .i64 n, .int .u64 t] w fun e w' => e = .returned (.int .i64 0) ∧ Hs w0 w' (Log lp s :: R) := by
  have hle : decide (t ≤ (s.pt n).last) = true := by simpa using ht
  clear ht
  replace H := Lib.hid (H.alloc (.cells #[.int .u64 t] 32))
  go_enter Try.func13, Try.ntmps13
  go_wp2_with fail
  generalize w.alloc _ = wa at H ⊢
  generalize w.heap.size = bt at *
  refine (of_any lp n s _ w0 _ H.out.at1).mono ?_
  rintro e w1 ⟨q, m, A, c, ps, Q, rfl, hf, H1⟩
  clear H
  go_wp2_with fail
  go_region_held3 (fun w' => w'.cell? ⟨bt, 0, none⟩ = some (.int .u64 t))
    (first | exact H1.drew.at5.cellOf 0 rfl | exact H2.at5.cellOf 0 rfl)
    (first | (go_at_call 19; refine (last_mid lp m q _ ps n _ _ w0 _ H1.drew hf.get hs).mono ?_; rintro e w2 ⟨rfl, H2⟩))
  replace H2 := hf.shut _ (.inl rfl) H2
  rw [upd_same] at H2
  go_wp2_with fail
  go_ret
  exact ⟨rfl, H2.at1.tail⟩
set_option maxRecDepth 100000 in
theorem commit_none (ht : (s.pt n).last < t) (hno : (s.pt n).l.any (fun x => x.1 == t) = false) :
    Calls Try.prog 13 #[.pointer (some ⟨lp, 0, none⟩), .int .i64 n, .int .u64 t] w fun e w' => e = .returned (.int .i64 171) ∧ Hs w0 w' (Log lp s :: R) := by
  have hle : decide (t ≤ (s.pt n).last) = false := by simpa using ht
  clear ht
  replace hno := Lib.hid hno
  replace H := Lib.hid (H.alloc (.cells #[.int .u64 t] 32))
  go_enter Try.func13, Try.ntmps13
  go_wp2_with fail
  generalize w.alloc _ = wa at H ⊢
  generalize w.heap.size = bt at *
  refine (of_any lp n s _ w0 _ H.out.at1).mono ?_
  rintro e w1 ⟨q, m, A, c, ps, Q, rfl, hf, H1⟩
  clear H
  go_wp2_with fail
  go_region_held3 (fun w' => w'.cell? ⟨bt, 0, none⟩ = some (.int .u64 t))
    (first | exact H1.drew.at5.cellOf 0 rfl | exact H2.at5.cellOf 0 rfl)
    (first | (go_at_call 19; refine (last_mid lp m q _ ps n _ _ w0 _ H1.drew hf.get hs).mono ?_; rintro e w2 ⟨rfl, H2⟩))
  obtain ⟨A0, c0, vs, hl, H2⟩ := Part.open_ H2
  have hany := Lib.hid ((TxS.any vs _ t H2.at2).trans hno.out)
  have k0 : w2.cell? ⟨q, 0, none⟩ = some (.slice A0 (s.pt n).l.length c0) := H2.cellOf 0 rfl
  replace H2 := Lib.hid H2
  clear hl
  go_wp2_with fail
  refine (contains30 A0 _ c0 bt t vs _ w0 _ H2.out.at7.at2).mono ?_
  rw [hany.out]
  rintro e w3 ⟨rfl, H3⟩
  clear H2
  go_wp2_with fail
  go_ret
  have H4 := hf.shut _ (.inl rfl) (Part.mk_ (H3.at1.drop).at1)
  rw [upd_same] at H4
  exact ⟨rfl, H4⟩
set_option maxHeartbeats 400000 in
set_option maxRecDepth 100000 in
theorem commit_go (ht : (s.pt n).last < t) (hyes : (s.pt n).l.any (fun x => x.1 == t) = true) (hb : s.all.length + ((s.pt n).l.flatMap (·.2)).length ≤ 1000000) :
    Calls Try.prog 13 #[.pointer (some ⟨lp, 0, none⟩), .int .i64 n, .int .u64 t] w fun e w' => e = .returned (.int .i64 0) ∧ Hs w0 w' (Log lp (s.commit n t) :: R) := by
  have hle : decide (t ≤ (s.pt n).last) = false := by simpa using ht
  clear ht
  have hne : Hid ((s.pt n).l ≠ []) := fun e => by rw [e] at hyes; simp at hyes
  replace hyes := Lib.hid hyes
  replace hb := Lib.hid hb
  replace H := Lib.hid (H.alloc (.cells #[.int .u64 t] 32))
  go_enter Try.func13, Try.ntmps13
  go_wp2_with fail
  generalize w.alloc _ = wa at H ⊢
  generalize w.heap.size = bt at *
  refine (of_any lp n s _ w0 _ H.out.at1).mono ?_
  rintro e w1 ⟨q, m, A, c, ps, Q, rfl, hf, H1⟩
  clear H
  go_wp2_with fail
  go_region_held3 (fun w' => w'.cell? ⟨bt, 0, none⟩ = some (.int .u64 t))
    (first | exact H1.drew.at5.cellOf 0 rfl | exact H2.at5.cellOf 0 rfl)
    (first | (go_at_call 19; refine (last_mid lp m q _ ps n _ _ w0 _ H1.drew hf.get hs).mono ?_; rintro e w2 ⟨rfl, H2⟩))
  obtain ⟨A0, c0, vs, hl, H2⟩ := Part.open_ H2
  have hany := Lib.hid ((TxS.any vs _ t H2.at2).trans hyes.out)
  have k0 : w2.cell? ⟨q, 0, none⟩ = some (.slice A0 (s.pt n).l.length c0) := H2.cellOf 0 rfl
  replace H2 := Lib.hid H2
  clear hl
  go_wp2_with fail
  refine (contains30 A0 _ c0 bt t vs _ w0 _ H2.out.at7.at2).mono ?_
  rw [hany.out]
  rintro e w3 ⟨rfl, H3⟩
  clear H2 k0
  obtain ⟨hs1, hs2⟩ := hs
  obtain ⟨N, hN⟩ : ∃ N, (s.pt n).l.length = N := ⟨_, rfl⟩
  rw [hN] at hs1 hs2 H3
  replace hN := Lib.hid hN
  go_wp2_with fail
  go_loopg [] (N - (s.pt n).dn) (fun k wr => ∃ (d : Nat) (A : Option Addr) (c : Nat) (al : List Rec), k + d = N ∧ Hid ((s.pt n).dn ≤ d ∧ (∀ x ∈ ((s.pt n).l.drop (s.pt n).dn).take (d - (s.pt n).dn), x.1 ≤ t) ∧ al = s.all ++ (((s.pt n).l.drop (s.pt n).dn).take (d - (s.pt n).dn)).flatMap (·.2)) ∧
    Hid (Hs w0 wr (Blk q (.cells #[.slice A0 N c0, .int .i64 d] 66 (0, 0)) :: Ls ETx 68 (.slice A0 N c0) vs :: Blk bt (.cells #[.int .u64 t] 32 (0, 0)) :: TxS vs (s.pt n).l :: Blk lp (.cells #[.map (some m), .slice A al.length c] 61 (0, 0)) :: Mp .i64 m ps :: Ls ERec 39 (.slice A al.length c) al :: Q :: R)))
  case atStart => exact ⟨(s.pt n).dn, A, c, s.all, by omega, ⟨Nat.le_refl _, by simp, by simp⟩, H3.at2⟩
  case round =>
    clear H1 H3 hany
    obtain ⟨d, A, c, al, hk, he, H⟩ := hrel
    have hd : d ≤ N := by omega
    have hcap := H.out.at1.ls_rd.caps.2
    have hcapl := H.out.at6.ls_rd.caps.2
    replace hk := Lib.hid hk
    have k0 : wr.cell? ⟨q, 0, none⟩ = some (.slice A0 N c0) := H.out.cellOf 0 rfl
    have k1 : wr.cell? ⟨q, 1, none⟩ = some (.int .i64 d) := H.out.cellOf 1 rfl
    have kb : wr.cell? ⟨bt, 0, none⟩ = some (.int .u64 t) := H.out.at2.cellOf 0 rfl
    have fin : Hid (∀ w', ((s.pt n).l.length ≤ d ∨ ∃ x, (s.pt n).l[d]? = some x ∧ ¬ x.1 ≤ t) → Hs w0 w' (Blk q (.cells #[.slice A0 N c0, .int .i64 d] 66 (0, 0)) :: Ls ETx 68 (.slice A0 N c0) vs :: Blk bt (.cells #[.int .u64 t] 32 (0, 0)) :: TxS vs (s.pt n).l :: Blk lp (.cells #[.map (some m), .slice A al.length c] 61 (0, 0)) :: Mp .i64 m ps :: Ls ERec 39 (.slice A al.length c) al :: Q :: R) → Hs w0 w' (Log lp (s.commit n t) :: R)) := by
      intro w' hend H
      obtain ⟨h1, h2, rfl⟩ := he.out
      have htw : (s.pt n).fresh t = ((s.pt n).l.drop (s.pt n).dn).take (d - (s.pt n).dn) := by
        refine takeWhile_eq _ _ _ (fun x hx => by simpa using h2 x hx) ?_
        rcases hend with h | ⟨x, hx, hp⟩
        · left; rw [List.length_drop]; omega
        · right
          refine ⟨x, ?_, by simpa using hp⟩
          rw [List.getElem?_drop, ← hx]
          congr 1
          omega
      have hlen : (s.pt n).dn + ((s.pt n).fresh t).length = d := by
        have := hN.out
        rw [htw, List.length_take, List.length_drop]
        omega
      have H5 := Part.mk_ (s := ⟨(s.pt n).l, d⟩) (H.at2.drop)
      have H6 := hf.shut ⟨(s.pt n).l, d⟩ (.inr hne.out) H5
      unfold Lg.commit
      rw [hlen, htw]
      exact H6
    rcases Nat.lt_or_ge d N with hj | hj
    · obtain ⟨x, hx⟩ : ∃ x, (s.pt n).l[d]? = some x := ⟨_, List.getElem?_eq_getElem (by have := hN.out; omega)⟩
      obtain ⟨A2, c2, hv, hrx⟩ := TxS.get _ _ d x H.out.at3 hx
      obtain ⟨g, off, rfl⟩ := H.out.at1.ls_rd.some_ (by have := (List.getElem?_eq_some_iff.1 hv).1; omega)
      have cx : wr.cell? ⟨g, off + d * 2, none⟩ = some (.int .u64 x.1) := H.out.at1.ls_rd.cell hv 0 rfl
      have cy : wr.cell? ⟨g, off + d * 2 + 1, none⟩ = some (.slice A2 x.2.length c2) := by have := H.out.at1.ls_rd.cell hv 1 rfl; rwa [show off + (d * ETx.sz + 1) = off + d * 2 + 1 from by show off + (d * 2 + 1) = _; omega] at this
      have hj0 : (0 : Int) ≤ (d : Int) := by omega
      have hj1 : (d : Int) < (N : Int) := by omega
      replace hv := Lib.hid hv
      replace hrx := Lib.hid hrx
      by_cases hxt : x.1 ≤ t
      · have hb3 : Hid (al.length + x.2.length ≤ 1000000) := by
          show _ ≤ _
          have h1 := (seg_bound he.out.1 hx).2
          have h2 := hb.out
          rw [he.out.2.2, List.length_append]
          omega
        have he2 : Hid ((s.pt n).dn ≤ d + 1 ∧ (∀ x ∈ ((s.pt n).l.drop (s.pt n).dn).take (d + 1 - (s.pt n).dn), x.1 ≤ t) ∧ al ++ x.2 = s.all ++ (((s.pt n).l.drop (s.pt n).dn).take (d + 1 - (s.pt n).dn)).flatMap (·.2)) := by
          obtain ⟨h1, h2, h3⟩ := he.out
          refine ⟨by omega, ?_, ?_⟩
          · rw [(seg_bound h1 hx).1]
            intro y hy
            rcases List.mem_append.1 hy with hy | hy
            · exact h2 y hy
            · rw [List.mem_singleton.1 hy]; exact hxt
          · rw [(seg_bound h1 hx).1, h3, List.flatMap_append, List.append_assoc]
            simp
        replace hx := Lib.hid hx
        have hcy : Hid (∀ w', RdL ETx w' (.slice (some ⟨g, off, none⟩) N c0) vs → w'.cell? ⟨g, off + d * 2 + 1, none⟩ = some (.slice A2 x.2.length c2)) := by
          intro w' h
          have := h.cell hv.out 1 rfl
          rwa [show off + (d * ETx.sz + 1) = off + d * 2 + 1 from by show off + (d * 2 + 1) = _; omega] at this
        have hw : IntKind.i64.wrap ((d : Int) + 1) = (d : Int) + 1 := IntWalk.i64_in _ (by omega)
        clear fin
        go_wp2_with fail
        go_quiet (fail)
        go_wp2_with fail
        generalize hw1 : World.drewN wr _ = w1
        obtain ⟨kk, hw1⟩ : ∃ kk, World.drewN wr kk = w1 := ⟨_, hw1⟩
        replace H := H.out.drewN kk
        rw [hw1] at H
        clear hw1 k0 k1 kb cx cy hrx
        have hrx : Hid (RdL ERec w1.drew (.slice A2 x.2.length c2) x.2) := by
          obtain ⟨A3, c3, hv2, hr⟩ := TxS.get _ _ d x H.drew.at3 hx.out
          rw [hv.out] at hv2
          simp only [Option.some.injEq, Prod.mk.injEq] at hv2
          obtain ⟨_, rfl, _, rfl⟩ := hv2
          exact hr
        refine wp_region_left (S := fun w' : World => w'.cell? ⟨lp, 1, none⟩ = some (.slice A al.length c) ∧ w'.cell? ⟨q, 0, none⟩ = some (.slice (some ⟨g, off, none⟩) N c0) ∧ w'.cell? ⟨q, 1, none⟩ = some (.int .i64 d) ∧ w'.cell? ⟨g, off + d * 2 + 1, none⟩ = some (.slice A2 x.2.length c2)) 19 mixed ?_
        have hS : (fun w' : World => w'.cell? ⟨lp, 1, none⟩ = some (.slice A al.length c) ∧ w'.cell? ⟨q, 0, none⟩ = some (.slice (some ⟨g, off, none⟩) N c0) ∧ w'.cell? ⟨q, 1, none⟩ = some (.int .i64 d) ∧ w'.cell? ⟨g, off + d * 2 + 1, none⟩ = some (.slice A2 x.2.length c2)) w1.drew := by exact ⟨H.drew.at4.cellOf 1 rfl, H.drew.cellOf 0 rfl, H.drew.cellOf 1 rfl, hcy.out _ H.drew.at1.ls_rd⟩
        refine Left.pure (i := 0) (v := ?v8_0) rfl (by kernel_rfl) (fun _ _ _ h => h) (Or.inr hS) (Or.inl ⟨by rfl, fun w _ => ?hy8_0⟩) ?rest8_0
        case hy8_0 => (go_simp; try with_reducible rfl)
        try simp only [Act.put, List.setIfInBounds_toArray, List.set_cons_zero, List.set_cons_succ]
        refine Left.pure (i := 1) (v := ?v8_1) rfl (by kernel_rfl) (fun _ _ _ h => h) (Or.inr hS) (Or.inl ⟨by rfl, fun w _ => ?hy8_1⟩) ?rest8_1
        case hy8_1 => (go_simp; try with_reducible rfl)
        try simp only [Act.put, List.setIfInBounds_toArray, List.set_cons_zero, List.set_cons_succ]
        refine Left.pure (i := 2) (v := ?v8_2) rfl (by kernel_rfl) (fun _ _ _ h => h) (Or.inr hS) (Or.inl ⟨by rfl, fun w _ => ?hy8_2⟩) ?rest8_2
        case hy8_2 => (go_simp; try with_reducible rfl)
        try simp only [Act.put, List.setIfInBounds_toArray, List.set_cons_zero, List.set_cons_succ]
        refine Left.pure (i := 3) (v := ?v8_3) rfl (by kernel_rfl) (fun _ _ _ h => h) (Or.inr hS) (Or.inl ⟨by rfl, fun w _ => ?hy8_3⟩) ?rest8_3
        case hy8_3 => (go_simp; try with_reducible rfl)
        try simp only [Act.put, List.setIfInBounds_toArray, List.set_cons_zero, List.set_cons_succ]
        refine Left.take (i := 4) (v := ?v8_4) rfl (by kernel_rfl) (fun _ _ _ h => h) hS (Or.inl ⟨by rfl, fun w hSw => ?hy8_4⟩) ?rest8_4
        case hy8_4 => ((try dsimp only at hSw); go_simp; try with_reducible rfl)
        try simp only [Act.put, List.setIfInBounds_toArray, List.set_cons_zero, List.set_cons_succ]
        refine Left.pure (i := 5) (v := ?v8_5) rfl (by kernel_rfl) (fun _ _ _ h => h) (Or.inr hS) (Or.inl ⟨by rfl, fun w _ => ?hy8_5⟩) ?rest8_5
        case hy8_5 => (go_simp; try with_reducible rfl)
        try simp only [Act.put, List.setIfInBounds_toArray, List.set_cons_zero, List.set_cons_succ]
        refine Left.pure (i := 6) (v := ?v8_6) rfl (by kernel_rfl) (fun _ _ _ h => h) (Or.inr hS) (Or.inl ⟨by rfl, fun w _ => ?hy8_6⟩) ?rest8_6
        case hy8_6 => (go_simp; try with_reducible rfl)
        try simp only [Act.put, List.setIfInBounds_toArray, List.set_cons_zero, List.set_cons_succ]
        refine Left.pure (i := 7) (v := ?v8_7) rfl (by kernel_rfl) (fun _ _ _ h => h) (Or.inr hS) (Or.inl ⟨by rfl, fun w _ => ?hy8_7⟩) ?rest8_7
        case hy8_7 => (go_simp; try with_reducible rfl)
        try simp only [Act.put, List.setIfInBounds_toArray, List.set_cons_zero, List.set_cons_succ]
        refine Left.take (i := 8) (v := ?v8_8) rfl (by kernel_rfl) (fun _ _ _ h => h) hS (Or.inl ⟨by rfl, fun w hSw => ?hy8_8⟩) ?rest8_8
        case hy8_8 => ((try dsimp only at hSw); go_simp; try with_reducible rfl)
        try simp only [Act.put, List.setIfInBounds_toArray, List.set_cons_zero, List.set_cons_succ]
        refine Left.pure (i := 9) (v := ?v8_9) rfl (by kernel_rfl) (fun _ _ _ h => h) (Or.inr hS) (Or.inl ⟨by rfl, fun w _ => ?hy8_9⟩) ?rest8_9
        case hy8_9 => (go_simp; try with_reducible rfl)
        try simp only [Act.put, List.setIfInBounds_toArray, List.set_cons_zero, List.set_cons_succ]
        refine Left.pure (i := 10) (v := ?v8_10) rfl (by kernel_rfl) (fun _ _ _ h => h) (Or.inr hS) (Or.inl ⟨by rfl, fun w _ => ?hy8_10⟩) ?rest8_10
        case hy8_10 => (go_simp; try with_reducible rfl)
        try simp only [Act.put, List.setIfInBounds_toArray, List.set_cons_zero, List.set_cons_succ]
        refine Left.pure (i := 11) (v := ?v8_11) rfl (by kernel_rfl) (fun _ _ _ h => h) (Or.inr hS) (Or.inl ⟨by rfl, fun w _ => ?hy8_11⟩) ?rest8_11
        case hy8_11 => (go_simp; try with_reducible rfl)
        try simp only [Act.put, List.setIfInBounds_toArray, List.set_cons_zero, List.set_cons_succ]
        refine Left.take (i := 12) (v := ?v8_12) rfl (by kernel_rfl) (fun _ _ _ h => h) hS (Or.inl ⟨by rfl, fun w hSw => ?hy8_12⟩) ?rest8_12
        case hy8_12 => ((try dsimp only at hSw); go_simp; try with_reducible rfl)
        try simp only [Act.put, List.setIfInBounds_toArray, List.set_cons_zero, List.set_cons_succ]
        refine Left.pure (i := 13) (v := ?v8_13) rfl (by kernel_rfl) (fun _ _ _ h => h) (Or.inr hS) (Or.inl ⟨by rfl, fun w _ => ?hy8_13⟩) ?rest8_13
        case hy8_13 => (go_simp; try with_reducible rfl)
        try simp only [Act.put, List.setIfInBounds_toArray, List.set_cons_zero, List.set_cons_succ]
        refine Left.pure (i := 14) (v := ?v8_14) rfl (by kernel_rfl) (fun _ _ _ h => h) (Or.inr hS) (Or.inl ⟨by rfl, fun w _ => ?hy8_14⟩) ?rest8_14
        case hy8_14 => (go_simp; try with_reducible rfl)
        try simp only [Act.put, List.setIfInBounds_toArray, List.set_cons_zero, List.set_cons_succ]
        refine Left.take (i := 15) (v := ?v8_15) rfl (by kernel_rfl) (fun _ _ _ h => h) hS (Or.inl ⟨by rfl, fun w hSw => ?hy8_15⟩) ?rest8_15
        case hy8_15 => ((try dsimp only at hSw); go_simp; try with_reducible rfl)
        try simp only [Act.put, List.setIfInBounds_toArray, List.set_cons_zero, List.set_cons_succ]
        refine Left.run (i := 16) rfl (by kernel_rfl) (fun K hK => ?_)
        simp only [Act.put, List.getElem_toArray, List.getElem_cons_zero, List.getElem_cons_succ, List.setIfInBounds_toArray, List.set_cons_zero, List.set_cons_succ]
        rw [if_pos (by rfl)]
        refine wp_appendL (E := ERec) (v := .slice A al.length c) (.tmp 61) (.tmp 72) 29 (by rfl) 39 _ 3 24 Try.underlying29 infoc29 rfl (by decide) (by decide) rfl (by rfl) (.slice A2 x.2.length c2) (by rfl) H.drew.at6 hrx.out (by have := hb3.out; omega) ?_
        intro A5 c5 w3 H3
        replace hS : (fun w' : World => w'.cell? ⟨lp, 1, none⟩ = some (.slice A al.length c) ∧ w'.cell? ⟨q, 0, none⟩ = some (.slice (some ⟨g, off, none⟩) N c0) ∧ w'.cell? ⟨q, 1, none⟩ = some (.int .i64 d) ∧ w'.cell? ⟨g, off + d * 2 + 1, none⟩ = some (.slice A2 x.2.length c2)) w3 := by exact ⟨H3.at5.cellOf 1 rfl, H3.at1.cellOf 0 rfl, H3.at1.cellOf 1 rfl, hcy.out _ H3.at2.ls_rd⟩
        refine hK.out _ _ (Or.inr hS) ?_
        clear hK K
        try simp only [Act.put, List.setIfInBounds_toArray, List.set_cons_zero, List.set_cons_succ]
        refine Left.pure (i := 17) (v := ?v8_17) rfl (by kernel_rfl) (fun _ _ _ h => h) (Or.inr hS) (Or.inl ⟨by rfl, fun w _ => ?hy8_17⟩) ?rest8_17
        case hy8_17 => (go_simp; try with_reducible rfl)
        try simp only [Act.put, List.setIfInBounds_toArray, List.set_cons_zero, List.set_cons_succ]
        refine Left.pure (i := 18) (v := ?v8_18) rfl (by kernel_rfl) (fun _ _ _ h => h) (Or.inr hS) (Or.inl ⟨by rfl, fun w _ => ?hy8_18⟩) ?rest8_18
        case hy8_18 => (go_simp; try with_reducible rfl)
        try simp only [Act.put, List.setIfInBounds_toArray, List.set_cons_zero, List.set_cons_succ]
        refine Left.run (i := 19) rfl (by kernel_rfl) (fun K hK => ?_)
        have f1 := H3.at5.frozenOf 1
        have d1 := H3.at5.cellOf 1 rfl
        go_simp
        refine hK.out _ _ (Or.inl (by kernel_rfl)) ?_
        clear hK K
        try simp only [Act.put, List.setIfInBounds_toArray, List.set_cons_zero, List.set_cons_succ]
        refine Left.done (by kernel_rfl) ?_ _

        have H4 := H3.at5.setCell (i := 1) (.slice A5 (al.length + x.2.length) c5)
        clear f1 d1
        generalize World.setCell _ _ _ = w4 at H4 ⊢
        have k1 : w4.cell? ⟨q, 1, none⟩ = some (.int .i64 d) := H4.at2.cellOf 1 rfl
        have k2 := H4.at2.frozenOf 1
        go_wp2_with fail
        go_roundg (N - (d + 1))
        case measure => have := hk.out; omega
        case rel =>
          have H5 := (H4.at2.setCell (i := 1) (.int .i64 ((d : Int) + 1))).at2.at6.at3.at6.at6.at6.at6
          rw [← List.length_append] at H5
          exact ⟨d + 1, A5, c5, al ++ x.2, by have := hk.out; omega, he2, H5⟩
      · have hb1 : decide (x.1 ≤ t) = false := by simpa using hxt
        have hx2 : Hid ((s.pt n).l.length ≤ d ∨ ∃ x, (s.pt n).l[d]? = some x ∧ ¬ x.1 ≤ t) := .inr ⟨x, hx, hxt⟩
        clear hxt
        replace hx := Lib.hid hx
        go_wp2_with fail
        go_quiet (fail)
        go_wp2_with fail
        go_ret
        exact ⟨rfl, fin.out _ hx2.out (H.out.drewN _)⟩
    · have hx2 : Hid ((s.pt n).l.length ≤ d ∨ ∃ x, (s.pt n).l[d]? = some x ∧ ¬ x.1 ≤ t) := .inl (by have := hN.out; omega)
      have hb1 : decide ((d : Int) < (N : Int)) = false := by rw [decide_eq_false_iff_not]; omega
      have hb2 : decide (d < N) = false := by rw [decide_eq_false_iff_not]; omega
      clear hj hd
      go_wp2_with fail
      go_quiet (fail)
      go_wp2_with fail
      go_ret
      exact ⟨rfl, fin.out _ hx2.out (H.out.drewN _)⟩
end
end Go.Proofs.Ytjlonfldcmcchaa

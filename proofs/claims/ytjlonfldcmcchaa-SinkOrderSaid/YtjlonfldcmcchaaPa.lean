import Derived.Test.YtjlonfldcmcchaaMd
import Derived.Test.YtjlonfldcmcchaaProg
import Derived.Test.YtjlonfldcmcchaaLs
import Derived.Outline
import Derived.StillTailTactics
import Derived.Deep.DeepCutAuto
import Derived.Deep.CutBlock
import Derived.Deep.LoopGhost
import Derived.Deep.QuietTactic
import Derived.BigQuiet
import Derived.Deep.RegionHeld3
import Derived.Deep.RegionLaw
set_option linter.unusedVariables false
set_option linter.unusedSimpArgs false
namespace Go.Proofs.Ytjlonfldcmcchaa
open Go.RowKit
theorem mixed : Try.prog.follows .mixedOrders = true := by kernel_rfl
theorem zmap (w : World) : (zeroValue 62).run Try.prog w = .ok (.pointer none) w := by kernel_rfl
section
variable {lp m n0 : Nat} {v : Value} {ps : List (Int × Value)}
theorem of_found (lp m q : Nat) (v : Value) (ps : List (Int × Value)) (n : Int) (w w0 : World) (R : List HP) (H : Hs w0 w (Blk lp (.cells #[.map (some m), v] 61 (0, 0)) :: Mp .i64 m ps :: R)) (hg : mpGet ps n = some (.pointer (some ⟨q, 0, none⟩))) :
    Calls Try.prog 28 #[.pointer (some ⟨lp, 0, none⟩), .int .i64 n] w fun e w' => e = .returned (.pointer (some ⟨q, 0, none⟩)) ∧ w = w' := by
  have c0 : w.cell? ⟨lp, 0, none⟩ = some (.map (some m)) := H.cellOf 0 rfl
  have hl := H.at1.mp_look 59 3 62 Try.underlying59 Try.underlying3 _ (zmap w) n
  rw [hg] at hl
  simp only [Option.getD_some] at hl
  clear hg H
  go_enter Try.func28, Try.ntmps28
  go_wp2_with fail
  go_ret
  exact ⟨rfl, rfl⟩
theorem of_none (lp m : Nat) (v : Value) (ps : List (Int × Value)) (n : Int) (w w0 : World) (R : List HP) (H : Hs w0 w (Blk lp (.cells #[.map (some m), v] 61 (0, 0)) :: Mp .i64 m ps :: R)) (hg : mpGet ps n = none) :
    Calls Try.prog 28 #[.pointer (some ⟨lp, 0, none⟩), .int .i64 n] w fun e w' => ∃ q, e = .returned (.pointer (some ⟨q, 0, none⟩)) ∧ Hs w0 w' (Part q ⟨[], 0⟩ :: Blk lp (.cells #[.map (some m), v] 61 (0, 0)) :: Mp .i64 m ps :: R) := by
  have c0 : w.cell? ⟨lp, 0, none⟩ = some (.map (some m)) := H.cellOf 0 rfl
  have hl := H.at1.mp_look 59 3 62 Try.underlying59 Try.underlying3 _ (zmap w) n
  rw [hg] at hl
  simp only [Option.getD_none] at hl
  clear hg
  go_enter Try.func28, Try.ntmps28
  go_wp2_with fail
  go_ret
  exact ⟨_, rfl, Part.mk_ (((TxS.nil H).ls_nil ETx 68).alloc _)⟩
end
/-- What is told of n's part. -/
def Pt.last (s : Pt) : Int := if s.dn = 0 then 0 else (s.l[s.dn - 1]?.map (·.1)).getD 0
def Pt.Ok (s : Pt) : Prop := s.dn ≤ s.l.length ∧ s.l.length ≤ 1000000
set_option maxRecDepth 100000 in
theorem last_found (lp m q : Nat) (v : Value) (ps : List (Int × Value)) (n : Int) (s : Pt) (w w0 : World) (R : List HP) (H : Hs w0 w (Part q s :: Blk lp (.cells #[.map (some m), v] 61 (0, 0)) :: Mp .i64 m ps :: R)) (hg : mpGet ps n = some (.pointer (some ⟨q, 0, none⟩))) (hs : s.Ok) :
    Calls Try.prog 19 #[.pointer (some ⟨lp, 0, none⟩), .int .i64 n] w fun e w' => e = .returned (.int .u64 s.last) ∧ ∃ k, w' = w.drewN k := by
  have HC := Lib.hid H
  obtain ⟨A, c, vs, hl, H⟩ := Part.open_ H
  have c0 : w.cell? ⟨q, 0, none⟩ = some (.slice A s.l.length c) := H.cellOf 0 rfl
  have c1 : w.cell? ⟨q, 1, none⟩ = some (.int .i64 s.dn) := H.cellOf 1 rfl
  obtain ⟨hs1, hs2⟩ := hs
  have hcap := H.at1.ls_rd.caps.2.1
  cases hd : s.dn with
  | zero =>
    rw [hd] at c1
    have hlast : Hid (s.last = 0) := by show _ = _; simp [Pt.last, hd]
    clear H hd hs1 hs2 hl hcap
    simp only [Int.natCast_zero] at c1
    go_enter Try.func19, Try.ntmps19
    go_wp2_with fail
    refine (of_found lp m q v ps n w w0 (Part q s :: R) (HC.out.at2.at2) hg).mono ?_
    rintro e w1 ⟨rfl, rfl⟩
    go_wp2_with fail
    go_ret
    rw [hlast.out]
    exact ⟨rfl, 0, rfl⟩
  | succ k =>
    obtain ⟨x, hx⟩ : ∃ x, s.l[k]? = some x := ⟨_, List.getElem?_eq_getElem (by omega)⟩
    obtain ⟨A2, c2, hv, _⟩ := TxS.get _ _ k x H.at2 hx
    obtain ⟨g, off, rfl⟩ := H.at1.ls_rd.some_ (by have := (List.getElem?_eq_some_iff.1 hv).1; omega)
    have cx : w.cell? ⟨g, off + k * 2, none⟩ = some (.int .u64 x.1) := H.at1.ls_rd.cell hv 0 rfl
    have hlast : Hid (s.last = x.1) := by show _ = _; simp [Pt.last, hd, hx]
    rw [hd] at c1
    have hk0 : (0 : Int) ≤ (k : Int) := by omega
    have hk1 : (k : Int) < (s.l.length : Int) := by omega
    have hw : IntKind.i64.wrap (((k + 1 : Nat) : Int) - 1) = (k : Int) := by rw [IntWalk.i64_in _ (by omega)]; omega
    have hpos : (0 : Int) < ((k + 1 : Nat) : Int) := by omega
    have HM := Lib.hid (HC.out.at2.at2)
    clear H hd hx hl hv hs1 HC
    go_enter Try.func19, Try.ntmps19
    go_wp2_with fail
    refine (of_found lp m q v ps n w w0 (Part q s :: R) HM.out hg).mono ?_
    rintro e w1 ⟨rfl, rfl⟩
    go_wp2_with fail
    go_quiet (fail)
    go_wp2_with fail
    go_ret
    rw [hlast.out]
    exact ⟨rfl, _, rfl⟩
theorem last_none (lp m : Nat) (v : Value) (ps : List (Int × Value)) (n : Int) (w w0 : World) (R : List HP) (H : Hs w0 w (Blk lp (.cells #[.map (some m), v] 61 (0, 0)) :: Mp .i64 m ps :: R)) (hg : mpGet ps n = none) :
    Calls Try.prog 19 #[.pointer (some ⟨lp, 0, none⟩), .int .i64 n] w fun e w' => e = .returned (.int .u64 0) ∧ Hs w0 w' (Blk lp (.cells #[.map (some m), v] 61 (0, 0)) :: Mp .i64 m ps :: R) := by
  go_enter Try.func19, Try.ntmps19
  go_wp2_with fail
  refine (of_none lp m v ps n w w0 R H hg).mono ?_
  rintro e w1 ⟨q, rfl, H1⟩
  have H2 := H1.tail
  obtain ⟨A, c, vs, hl, H1⟩ := Part.open_ H1
  have c1 : w1.cell? ⟨q, 1, none⟩ = some (.int .i64 0) := H1.cellOf 1 rfl
  go_wp2_with fail
  go_ret
  exact ⟨rfl, H2⟩
/-- What frames n's part in a log. -/
structure Foc (lp q m : Nat) (ps : List (Int × Value)) (n : Int) (f : Int → Pt) (Q : HP) : Prop where
  get : mpGet ps n = some (.pointer (some ⟨q, 0, none⟩)) ∨ (mpGet ps n = none ∧ f n = ⟨[], 0⟩)
  shut : ∀ {w0 w : World} {v : Value} {all : List Rec} {R : List HP} (x : Pt), (x = f n ∨ (f n).l ≠ []) → Hs w0 w (Part q x :: Blk lp (.cells #[.map (some m), v] 61 (0, 0)) :: Mp .i64 m ps :: Ls ERec 39 v all :: Q :: R) → Hs w0 w (Log lp ⟨upd f n x, all⟩ :: R)
  put : ∀ {w0 w : World} {v : Value} {all : List Rec} {R : List HP} (x : Pt), Hs w0 w (Part q x :: Blk lp (.cells #[.map (some m), v] 61 (0, 0)) :: Mp .i64 m (mpPut ps n (.pointer (some ⟨q, 0, none⟩))) :: Ls ERec 39 v all :: Q :: R) → Hs w0 w (Log lp ⟨upd f n x, all⟩ :: R)
theorem upd_same (f : Int → Pt) (n : Int) : upd f n (f n) = f := by
  funext m
  unfold upd
  split
  · rename_i h; rw [h]
  · rfl
theorem foc_found {lp q m : Nat} {ps : List (Int × Nat)} {n : Int} {f : Int → Pt} (hp : (ps.map (·.1)).Nodup ∧ ∀ n, (∀ x ∈ ps, x.1 ≠ n) → f n = ⟨[], 0⟩) (hg : mpGet (ptrs ps) n = some (.pointer (some ⟨q, 0, none⟩))) (hm : (n, q) ∈ ps) :
    ∃ Q, Foc lp q m (ptrs ps) n f Q ∧ ∀ {w0 w : World} {R : List HP}, Hs w0 w (PS ps f :: R) → Hs w0 w (Part q (f n) :: Q :: R) := by
  obtain ⟨Q, h1, h2⟩ := PS.focus ps f n q hp.1 hm
  have hp' : ∀ x, (ps.map (·.1)).Nodup ∧ ∀ k, (∀ x ∈ ps, x.1 ≠ k) → upd f n x k = ⟨[], 0⟩ := fun x => ⟨hp.1, fun k hk => by
    have : k ≠ n := fun e => hk (n, q) hm e.symm
    simp [upd, this, hp.2 k hk]⟩
  have fin : ∀ {w0 w : World} {v : Value} {all : List Rec} {R : List HP} (x : Pt), Hs w0 w (Part q x :: Blk lp (.cells #[.map (some m), v] 61 (0, 0)) :: Mp .i64 m (ptrs ps) :: Ls ERec 39 v all :: Q :: R) → Hs w0 w (Log lp ⟨upd f n x, all⟩ :: R) := by
    intro w0 w v all R x H
    exact Log.mk_ (hp' x) (h2 x H.at4.at1).at3.at3.at3
  exact ⟨Q, ⟨.inl hg, fun x _ H => fin x H, fun x H => fin x (by rwa [ptrs_put_old ps n q hg] at H)⟩, fun H => h1 H⟩
theorem foc_none {lp q m : Nat} {ps : List (Int × Nat)} {n : Int} {f : Int → Pt} (hp : (ps.map (·.1)).Nodup ∧ ∀ n, (∀ x ∈ ps, x.1 ≠ n) → f n = ⟨[], 0⟩) (hg : mpGet (ptrs ps) n = none) (hm : ∀ x ∈ ps, x.1 ≠ n) :
    Foc lp q m (ptrs ps) n f (PS ps f) := by
  have hn := hp.2 n hm
  refine ⟨.inr ⟨hg, hn⟩, fun x hx H => ?_, fun {w0 w v all R} x H => ?_⟩
  · rcases hx with rfl | hx
    · rw [upd_same]
      exact Log.mk_ hp H.tail
    · rw [hn] at hx
      exact absurd rfl hx
  · rw [ptrs_put_new ps n q hm] at H
    refine Log.mk_ (m := m) (v := v) (ps := ps ++ [(n, q)]) ⟨?_, fun k hk => ?_⟩ ?_
    · rw [List.map_append, List.nodup_append]
      refine ⟨hp.1, by simp, fun a ha b hb => ?_⟩
      simp at hb
      subst hb
      obtain ⟨x, hx, rfl⟩ := List.mem_map.1 ha
      exact hm x hx
    · have h1 : k ≠ n := fun e => hk (n, q) (by simp) e.symm
      show upd f n x k = _
      simp only [upd, if_neg h1]
      exact hp.2 k fun y hy => hk y (by simp [hy])
    · have hps : ∀ (l : List (Int × Nat)) (h : Hp), (∀ x ∈ l, x.1 ≠ n) → Star (Part q x) (PS l f) h → PS (l ++ [(n, q)]) (upd f n x) h := by
        intro l
        induction l with
        | nil => intro h _ hh; exact Star.mono (fun _ h => by simpa [upd] using h) (fun _ h => h) hh
        | cons y r ih =>
          intro h hne hh
          have hh : Star (Part q x) (Star (Part y.2 (f y.1)) (PS r f)) h := hh
          rw [Star.left_comm] at hh
          have hy : upd f n x y.1 = f y.1 := by simp [upd, hne y (by simp)]
          show Star (Part y.2 (upd f n x y.1)) (PS (r ++ [(n, q)]) (upd f n x)) h
          rw [hy]
          exact Star.mono (fun _ h => h) (fun h h' => ih h (fun z hz => hne z (by simp [hz])) h') hh
      exact ((H.at4.at1).join.mono fun h hh => hps ps h hm hh).at3.at3.at3
/-- Log.of. -/
theorem of_any (lp : Nat) (n : Int) (s : Lg) (w w0 : World) (R : List HP) (H : Hs w0 w (Log lp s :: R)) :
    Calls Try.prog 28 #[.pointer (some ⟨lp, 0, none⟩), .int .i64 n] w fun e w' => ∃ q m A c ps Q, e = .returned (.pointer (some ⟨q, 0, none⟩)) ∧ Foc lp q m ps n s.pt Q ∧
      Hs w0 w' (Part q (s.pt n) :: Blk lp (.cells #[.map (some m), .slice A s.all.length c] 61 (0, 0)) :: Mp .i64 m ps :: Ls ERec 39 (.slice A s.all.length c) s.all :: Q :: R) := by
  obtain ⟨m, A, c, ps, hp, H⟩ := Log.open_ H
  rcases ptrs_get ps n with ⟨h1, h2⟩ | ⟨q, h1, h2⟩
  · refine (of_none lp m _ _ n w w0 _ H h1).mono ?_
    rintro e w' ⟨q, rfl, H'⟩
    refine ⟨q, m, A, c, _, _, rfl, foc_none hp h1 h2, ?_⟩
    rw [hp.2 n h2]
    exact H'
  · refine (of_found lp m q _ _ n w w0 _ H h1).mono ?_
    rintro e w' ⟨rfl, rfl⟩
    obtain ⟨Q, hf, ho⟩ := foc_found (lp := lp) (m := m) hp h1 h2
    exact ⟨q, m, A, c, _, Q, rfl, hf, (ho H.at3).at1.at4.at4.at4.at4⟩
/-- Last, n's part in hand. -/
theorem last_mid (lp m q : Nat) (v : Value) (ps : List (Int × Value)) (n : Int) (s : Pt) (w w0 : World) (R : List HP) (H : Hs w0 w (Part q s :: Blk lp (.cells #[.map (some m), v] 61 (0, 0)) :: Mp .i64 m ps :: R)) (hg : mpGet ps n = some (.pointer (some ⟨q, 0, none⟩)) ∨ (mpGet ps n = none ∧ s = ⟨[], 0⟩)) (hs : s.Ok) :
    Calls Try.prog 19 #[.pointer (some ⟨lp, 0, none⟩), .int .i64 n] w fun e w' => e = .returned (.int .u64 s.last) ∧ Hs w0 w' (Part q s :: Blk lp (.cells #[.map (some m), v] 61 (0, 0)) :: Mp .i64 m ps :: R) := by
  rcases hg with hg | ⟨hg, rfl⟩
  · refine (last_found lp m q v ps n s w w0 R H hg hs).mono ?_
    rintro e w' ⟨rfl, k, rfl⟩
    exact ⟨rfl, H.drewN k⟩
  · refine (last_none lp m v ps n w w0 _ H.at2.at2 hg).mono ?_
    rintro e w' ⟨rfl, H'⟩
    exact ⟨rfl, H'.at2⟩
/-- Log.Last. -/
theorem last_any (lp : Nat) (n : Int) (s : Lg) (w w0 : World) (R : List HP) (H : Hs w0 w (Log lp s :: R)) (hs : (s.pt n).Ok) :
    Calls Try.prog 19 #[.pointer (some ⟨lp, 0, none⟩), .int .i64 n] w fun e w' => e = .returned (.int .u64 (s.pt n).last) ∧ Hs w0 w' (Log lp s :: R) := by
  have HC := Lib.hid H
  obtain ⟨m, A, c, ps, hp, H⟩ := Log.open_ H
  rcases ptrs_get ps n with ⟨h1, h2⟩ | ⟨q, h1, h2⟩
  · refine (last_none lp m _ _ n w w0 _ H h1).mono ?_
    rintro e w' ⟨rfl, H'⟩
    rw [hp.2 n h2]
    exact ⟨rfl, Log.mk_ hp H'⟩
  · obtain ⟨Q, hf, ho⟩ := foc_found (lp := lp) (m := m) hp h1 h2
    refine (last_found lp m q _ _ n (s.pt n) w w0 _ (ho H.at3).at1.at4.at4.at4.at4 h1 hs).mono ?_
    rintro e w' ⟨rfl, k, rfl⟩
    exact ⟨rfl, HC.out.drewN k⟩
end Go.Proofs.Ytjlonfldcmcchaa

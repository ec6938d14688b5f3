import Derived.Test.YtjlonfldcmcchaaRa
import Derived.Test.YtjlonfldcmcchaaSy
import Derived.Test.YtjlonfldcmcchaaProg
import Derived.Test.YtjlonfldcmcchaaLs
import Derived.Outline
import Derived.StillTailTactics
import Derived.Deep.DeepCutAuto
import Derived.Deep.CutBlock
import Derived.Deep.LoopGhost
import Derived.Deep.QuietTactic
import Derived.BigQuiet
import Derived.Deep.RegionHeld3
import Derived.Deep.RegionLaw
set_option linter.unusedVariables false
set_option linter.unusedSimpArgs false
namespace Go.Proofs.Ytjlonfldcmcchaa
open Go.RowKit
abbrev ERt : Enc (Int × Int × Slc × Bool) := (Enc.num .i64).pair ((Enc.num .u64).pair (Enc.slc.pair Enc.flag))
abbrev ZT := (Int × Int × Slc × Bool) × List Rec
def zm (z : ZT) : RT := (z.1.1, z.1.2.1, z.2, z.1.2.2.2)
def RxS : List ZT → HP
  | [] => fun _ => True
  | z :: r => Star (Ls ERec 39 (.slice z.1.2.2.1.1 z.1.2.2.1.2.1 z.1.2.2.1.2.2) z.2) (RxS r)
section
variable {w0 w : World} {R : List HP}
theorem RxS.get : ∀ (zs : List ZT) (k : Nat) (z : ZT) {w0 w : World} {R : List HP}, Hs w0 w (RxS zs :: R) → zs[k]? = some z → RdL ERec w (.slice z.1.2.2.1.1 z.1.2.2.1.2.1 z.1.2.2.1.2.2) z.2
  | [], _, _, _, _, _, _, h => by simp at h
  | z :: r, 0, y, _, _, _, H, h => by
    simp only [List.getElem?_cons_zero, Option.some.injEq] at h
    subst h
    exact (Hs.part (B := RxS r) H).ls_rd
  | z :: r, k + 1, y, _, _, _, H, h => RxS.get r k y (Hs.part (A := Ls ERec 39 (.slice z.1.2.2.1.1 z.1.2.2.1.2.1 z.1.2.2.1.2.2) z.2) (B := RxS r) H).tail (by simpa using h)
theorem RxS.nil (H : Hs w0 w R) : Hs w0 w (RxS [] :: R) := TxS.nil H
theorem RxS.snoc_ : ∀ (zs : List ZT) (z : ZT) (h : Hp), Star (Ls ERec 39 (.slice z.1.2.2.1.1 z.1.2.2.1.2.1 z.1.2.2.1.2.2) z.2) (RxS zs) h → RxS (zs ++ [z]) h
  | [], z, h, hh => hh
  | y :: r, z, h, hh => by
    have hh : Star (Ls ERec 39 (.slice z.1.2.2.1.1 z.1.2.2.1.2.1 z.1.2.2.1.2.2) z.2) (Star (Ls ERec 39 (.slice y.1.2.2.1.1 y.1.2.2.1.2.1 y.1.2.2.1.2.2) y.2) (RxS r)) h := hh
    rw [Star.left_comm] at hh
    exact Star.mono (fun _ h => h) (fun h h' => RxS.snoc_ r z h h') hh
theorem RxS.snoc (zs : List ZT) (z : ZT) (H : Hs w0 w (Ls ERec 39 (.slice z.1.2.2.1.1 z.1.2.2.1.2.1 z.1.2.2.1.2.2) z.2 :: RxS zs :: R)) : Hs w0 w (RxS (zs ++ [z]) :: R) :=
  H.join.mono fun h hh => RxS.snoc_ zs z h hh
theorem RxS.filter (f : ZT → Bool) : ∀ (zs : List ZT) {w0 w : World} {R : List HP}, Hs w0 w (RxS zs :: R) → Hs w0 w (RxS (zs.filter f) :: R)
  | [], _, _, _, H => H
  | z :: r, _, _, _, H => by
    have h := (RxS.filter f r (Hs.part (A := Ls ERec 39 (.slice z.1.2.2.1.1 z.1.2.2.1.2.1 z.1.2.2.1.2.2) z.2) (B := RxS r) H).at1)
    rw [List.filter_cons]
    split
    · exact Hs.join (A := Ls ERec 39 (.slice z.1.2.2.1.1 z.1.2.2.1.2.1 z.1.2.2.1.2.2) z.2) (B := RxS (r.filter f)) h.at1
    · exact h.at1.tail
theorem RxS.map (g : ZT → ZT) (hg : ∀ z, (g z).1.2.2.1 = z.1.2.2.1 ∧ (g z).2 = z.2) : ∀ (zs : List ZT), RxS (zs.map g) = RxS zs
  | [] => rfl
  | z :: r => by
    show Star (Ls ERec 39 (.slice (g z).1.2.2.1.1 (g z).1.2.2.1.2.1 (g z).1.2.2.1.2.2) (g z).2) (RxS (r.map g)) = Star (Ls ERec 39 (.slice z.1.2.2.1.1 z.1.2.2.1.2.1 z.1.2.2.1.2.2) z.2) (RxS r)
    rw [(hg z).1, (hg z).2, RxS.map g hg r]
/-- The document's log at block p; what is committed is the slice vo. -/
def RLogV (p : Nat) (r : Rf) (vo : Value) : HP := Ex fun v => Ex fun zs : List ZT => Pu (r.l = zs.map zm) (Star (Blk p (.cells #[v, vo] 31 (0, 0))) (Star (Ls ERt 71 v (zs.map (·.1))) (Star (Ls ERec 39 vo r.out) (RxS zs))))
def RLog (p : Nat) (r : Rf) : HP := Ex fun vo => RLogV p r vo
theorem RLogV.open_ {p : Nat} {r : Rf} {vo : Value} (H : Hs w0 w (RLogV p r vo :: R)) : ∃ A c A1 c1 zs, vo = .slice A1 r.out.length c1 ∧ r.l = zs.map zm ∧
    Hs w0 w (Blk p (.cells #[.slice A zs.length c, .slice A1 r.out.length c1] 31 (0, 0)) :: Ls ERt 71 (.slice A zs.length c) (zs.map (·.1)) :: Ls ERec 39 (.slice A1 r.out.length c1) r.out :: RxS zs :: R) := by
  obtain ⟨v, H⟩ := H.ex
  obtain ⟨zs, H⟩ := H.ex
  obtain ⟨hl, H⟩ := H.pu
  have H := H.part.at1.part.at1.part
  obtain ⟨A1, c1, rfl⟩ := H.ls_form
  obtain ⟨A, c, rfl⟩ := H.at2.ls_form
  rw [List.length_map] at H
  exact ⟨A, c, A1, c1, zs, rfl, hl, H.at2.at3⟩
theorem RLogV.mk_ {p : Nat} {r : Rf} {v vo : Value} {zs : List ZT} (hl : r.l = zs.map zm) (H : Hs w0 w (Blk p (.cells #[v, vo] 31 (0, 0)) :: Ls ERt 71 v (zs.map (·.1)) :: Ls ERec 39 vo r.out :: RxS zs :: R)) : Hs w0 w (RLogV p r vo :: R) := by
  have H : Hs w0 w (Star _ (Star _ (Star _ _)) :: R) := H.at3.at3.join.at2.join.at1.join
  exact H.mono fun h hh => ⟨v, zs, hl, hh⟩
theorem RLog.open_ {p : Nat} {r : Rf} (H : Hs w0 w (RLog p r :: R)) : ∃ A c A1 c1 zs, r.l = zs.map zm ∧
    Hs w0 w (Blk p (.cells #[.slice A zs.length c, .slice A1 r.out.length c1] 31 (0, 0)) :: Ls ERt 71 (.slice A zs.length c) (zs.map (·.1)) :: Ls ERec 39 (.slice A1 r.out.length c1) r.out :: RxS zs :: R) := by
  obtain ⟨vo, H⟩ := H.ex
  obtain ⟨A, c, A1, c1, zs, _, h⟩ := RLogV.open_ H
  exact ⟨A, c, A1, c1, zs, h⟩
theorem RLog.mk_ {p : Nat} {r : Rf} {v vo : Value} {zs : List ZT} (hl : r.l = zs.map zm) (H : Hs w0 w (Blk p (.cells #[v, vo] 31 (0, 0)) :: Ls ERt 71 v (zs.map (·.1)) :: Ls ERec 39 vo r.out :: RxS zs :: R)) : Hs w0 w (RLog p r :: R) :=
  Hs.mk_ex vo (RLogV.mk_ hl H)
theorem RLogV.cell {p : Nat} {r : Rf} {vo : Value} (H : Hs w0 w (RLogV p r vo :: R)) : w.cell? ⟨p, 1, none⟩ = some vo := by
  obtain ⟨A, c, A1, c1, zs, rfl, _, H⟩ := RLogV.open_ H
  exact H.cellOf 1 rfl
theorem RLogV.rd {p : Nat} {r : Rf} {vo : Value} (H : Hs w0 w (RLogV p r vo :: R)) : RdL ERec w vo r.out := by
  obtain ⟨A, c, A1, c1, zs, rfl, _, H⟩ := RLogV.open_ H
  exact H.at2.ls_rd
end
/-- An element's four cells. -/
theorem rt_cells {w : World} {g off n c : Nat} {zs : List ZT} {k : Nat} {z : ZT} (H : RdL ERt w (.slice (some ⟨g, off, none⟩) n c) (zs.map (·.1))) (hz : zs[k]? = some z) :
    w.cell? ⟨g, off + k * 4, none⟩ = some (.int .i64 z.1.1) ∧ w.cell? ⟨g, off + k * 4 + 1, none⟩ = some (.int .u64 z.1.2.1) ∧ w.cell? ⟨g, off + k * 4 + 2, none⟩ = some (.slice z.1.2.2.1.1 z.1.2.2.1.2.1 z.1.2.2.1.2.2) ∧ w.cell? ⟨g, off + k * 4 + 3, none⟩ = some (.bool z.1.2.2.2) := by
  have hm : (zs.map (·.1))[k]? = some z.1 := by rw [List.getElem?_map, hz]; rfl
  exact ⟨H.cell hm 0 rfl, H.cell hm 1 rfl, H.cell hm 2 rfl, H.cell hm 3 rfl⟩
structure Rf.Ok (r : Rf) (B C : Nat) : Prop where
  len : r.l.length ≤ B
  flat : (r.l.flatMap (·.2.2.1)).length ≤ B
  out : r.out.length ≤ C
theorem info71 : (Try.prog.info? 71).map (fun i => (i.zero, i.size, i.bytes)) = some (some (.agg #[.int .i64 0, .int .u64 0, .slice none 0 0, .bool false]), 4, 48) := by kernel_rfl
set_option maxRecDepth 100000 in
theorem rlast20 (p : Nat) (n : Int) (r : Rf) (w w0 : World) (R : List HP) (H : Hs w0 w (RLog p r :: R)) (hb : r.l.length ≤ 1000000) :
    Calls Try.prog 20 #[.pointer (some ⟨p, 0, none⟩), .int .i64 n] w fun e w' => e = .returned (.int .u64 (r.last n)) ∧ w = w' := by
  obtain ⟨A, c, A1, c1, zs, hl, H⟩ := RLog.open_ H
  obtain ⟨N, hN⟩ : ∃ N, zs.length = N := ⟨_, rfl⟩
  rw [hN] at H
  have hbN : N ≤ 1000000 := by rw [hl, List.length_map] at hb; omega
  have k0 : w.cell? ⟨p, 0, none⟩ = some (.slice A N c) := H.cellOf 0 rfl
  have hcap := H.at1.ls_rd.caps.2
  replace hN := Lib.hid hN
  replace hl := Lib.hid hl
  replace H := Lib.hid H
  clear hb
  go_enter Try.func20, Try.ntmps20
  go_wp2_with fail
  go_loopg [5, 6] N (fun k mv iv wr => ∃ (j : Nat) (m : Int), k + j = N ∧ iv = .int .i64 j ∧ mv = .int .u64 m ∧ Hid (m = ((r.l.take j).filter fun x => x.1 == n && x.2.2.2).foldl (fun m x => max m x.2.1) 0) ∧ wr = w)
  case atStart => exact ⟨0, 0, rfl, rfl, rfl, by show _ = _; simp, rfl⟩
  case round =>
    obtain ⟨j, m, hk, rfl, rfl, hm, rfl⟩ := hrel
    have hjN : j ≤ N := by omega
    replace hk := Lib.hid hk
    rcases Nat.lt_or_ge j N with hj | hj
    · have hj0 : (0 : Int) ≤ (j : Int) := by omega
      have hj1 : (j : Int) < (N : Int) := by omega
      obtain ⟨z, hz⟩ : ∃ z, zs[j]? = some z := ⟨_, List.getElem?_eq_getElem (by have := hN.out; omega)⟩
      obtain ⟨g, off, rfl⟩ := H.out.at1.ls_rd.some_ (by have := hN.out; rw [List.length_map]; omega)
      obtain ⟨s0, s1, _, s3⟩ := rt_cells H.out.at1.ls_rd hz
      have hstep : Hid (r.l.take (j + 1) = r.l.take j ++ [zm z]) := by show _ = _; rw [List.take_add_one, hl.out, List.getElem?_map, hz]; rfl
      replace hz := Lib.hid hz
      obtain ⟨⟨pz, nz, sl, dz⟩, rz⟩ := z
      simp only at s0 s1 s3
      have hfin : Hid (∀ b, (pz == n && dz) = b → ((r.l.take (j + 1)).filter fun x => x.1 == n && x.2.2.2).foldl (fun m x => max m x.2.1) 0 = if b then max m nz else m) := by
        intro b hb
        rw [hstep.out, List.filter_append, List.foldl_append, ← hm.out]
        simp only [zm, List.filter_cons, hb, List.filter_nil]
        cases b <;> rfl
      by_cases hp : pz = n
      · subst hp
        cases dz with
        | true =>
          go_wp2_with fail
          all_goals
            go_roundg (N - (j + 1))
            case measure => have := hk.out; omega
            case rel => exact ⟨j + 1, _, by have := hk.out; omega, by go_num, rfl, by show _ = _; rw [hfin.out true (by simp)]; simp only [if_true]; omega, rfl⟩
        | false =>
          go_wp2_with fail
          go_roundg (N - (j + 1))
          case measure => have := hk.out; omega
          case rel => exact ⟨j + 1, _, by have := hk.out; omega, by go_num, rfl, by show _ = _; rw [hfin.out false (by simp)]; rfl, rfl⟩
      · have hpb : (pz == n) = false := by rw [beq_eq_false_iff_ne]; exact hp
        have hpb' := Lib.hid hpb
        clear hp
        go_wp2_with fail
        go_roundg (N - (j + 1))
        case measure => have := hk.out; omega
        case rel => exact ⟨j + 1, _, by have := hk.out; omega, by go_num, rfl, by show _ = _; rw [hfin.out false (by rw [hpb'.out]; rfl)]; rfl, rfl⟩
    · have hj1 : decide ((j : Int) < (N : Int)) = false := by rw [decide_eq_false_iff_not]; omega
      have hj2 : decide (j < N) = false := by rw [decide_eq_false_iff_not]; omega
      have he : Hid (m = r.last n) := by
        show _ = _
        rw [hm.out, List.take_of_length_le (by rw [hl.out, List.length_map]; have := hN.out; omega)]
        rfl
      clear hj
      go_wp2_with fail
      go_ret
      rw [← he.out]
      exact ⟨rfl, rfl⟩
set_option maxRecDepth 100000 in
theorem rstaged23 (p : Nat) (n : Int) (r : Rf) (vo : Value) (w w0 : World) (R : List HP) (H : Hs w0 w (RLogV p r vo :: R)) (hb : r.l.length ≤ 1000000) :
    Calls Try.prog 23 #[.pointer (some ⟨p, 0, none⟩), .int .i64 n] w fun e w' => ∃ A c, e = .returned (.slice A (r.staged n).length c) ∧ Hs w0 w' (Ls (Enc.num .u64) 32 (.slice A (r.staged n).length c) (r.staged n) :: RLogV p r vo :: R) := by
  obtain ⟨A, c, A1, c1, zs, rfl, hl, H⟩ := RLogV.open_ H
  obtain ⟨N, hN⟩ : ∃ N, zs.length = N := ⟨_, rfl⟩
  rw [hN] at H
  have hbN : N ≤ 1000000 := by rw [hl, List.length_map] at hb; omega
  have k0 : w.cell? ⟨p, 0, none⟩ = some (.slice A N c) := H.cellOf 0 rfl
  have hcap := H.at1.ls_rd.caps.2
  replace hN := Lib.hid hN
  replace hl := Lib.hid hl
  replace H := Lib.hid H
  clear hb
  go_enter Try.func23, Try.ntmps23
  go_wp2_with fail
  go_loopg [5, 6] N (fun k ov iv wr => ∃ (j : Nat) (A2 : Option Addr) (c2 : Nat) (ot : List Int), k + j = N ∧ iv = .int .i64 j ∧ ov = .slice A2 ot.length c2 ∧ ot.length ≤ j ∧ Hid (ot = ((r.l.take j).filter fun x => x.1 == n && !x.2.2.2).map (·.2.1)) ∧ Hid (Hs w0 wr (Ls (Enc.num .u64) 32 (.slice A2 ot.length c2) ot :: Blk p (.cells #[.slice A N c, .slice A1 r.out.length c1] 31 (0, 0)) :: Ls ERt 71 (.slice A N c) (zs.map (·.1)) :: Ls ERec 39 (.slice A1 r.out.length c1) r.out :: RxS zs :: R)))
  case atStart => exact ⟨0, none, 0, [], rfl, rfl, rfl, by simp, by show _ = _; simp, H.out.ls_nil (Enc.num .u64) 32⟩
  case round =>
    clear H k0
    obtain ⟨j, A2, c2, ot, hk, rfl, rfl, hoj, ho, H⟩ := hrel
    have hjN : j ≤ N := by omega
    replace hk := Lib.hid hk
    have k0 : wr.cell? ⟨p, 0, none⟩ = some (.slice A N c) := H.out.at1.cellOf 0 rfl
    rcases Nat.lt_or_ge j N with hj | hj
    · have hj0 : (0 : Int) ≤ (j : Int) := by omega
      have hj1 : (j : Int) < (N : Int) := by omega
      obtain ⟨z, hz⟩ : ∃ z, zs[j]? = some z := ⟨_, List.getElem?_eq_getElem (by have := hN.out; omega)⟩
      obtain ⟨g, off, rfl⟩ := H.out.at2.ls_rd.some_ (by have := hN.out; rw [List.length_map]; omega)
      obtain ⟨s0, s1, _, s3⟩ := rt_cells H.out.at2.ls_rd hz
      have hstep : Hid (r.l.take (j + 1) = r.l.take j ++ [zm z]) := by show _ = _; rw [List.take_add_one, hl.out, List.getElem?_map, hz]; rfl
      replace hz := Lib.hid hz
      obtain ⟨⟨pz, nz, sl, dz⟩, rz⟩ := z
      simp only at s0 s1 s3
      have hfin : Hid (∀ b, (pz == n && !dz) = b → ((r.l.take (j + 1)).filter fun x => x.1 == n && !x.2.2.2).map (·.2.1) = if b then ot ++ [nz] else ot) := by
        intro b hb
        rw [hstep.out, List.filter_append, List.map_append, ← ho.out]
        simp only [zm, List.filter_cons, hb, List.filter_nil]
        cases b <;> simp
      by_cases hp : pz = n
      · subst hp
        cases dz with
        | false =>
          go_wp2_with (at_builtin; refine wpList_append1L (E := Enc.num .u64) rfl (.tmp 37) (.tmp 46) 47 rfl 32 _ 1 8 Try.underlying47 info32 rfl (by decide) (by decide) rfl rfl rfl H.out nz (by omega) ?_)
          intro A4 c4 w3 H3
          go_wp2_with fail
          go_roundg (N - (j + 1))
          case measure => have := hk.out; omega
          case rel => exact ⟨j + 1, A4, c4, ot ++ [nz], by have := hk.out; omega, by go_num, by simp, by simp; omega, by show _ = _; rw [hfin.out true (by simp)]; rfl, by show Hs _ _ _; rw [List.length_append]; exact H3⟩
        | true =>
          go_wp2_with fail
          go_roundg (N - (j + 1))
          case measure => have := hk.out; omega
          case rel => exact ⟨j + 1, A2, c2, ot, by have := hk.out; omega, by go_num, rfl, by omega, by show _ = _; rw [hfin.out false (by simp)]; rfl, H⟩
      · have hpb : (pz == n) = false := by rw [beq_eq_false_iff_ne]; exact hp
        have hpb' := Lib.hid hpb
        clear hp
        go_wp2_with fail
        go_roundg (N - (j + 1))
        case measure => have := hk.out; omega
        case rel => exact ⟨j + 1, A2, c2, ot, by have := hk.out; omega, by go_num, rfl, by omega, by show _ = _; rw [hfin.out false (by rw [hpb'.out]; rfl)]; rfl, H⟩
    · have hj1 : decide ((j : Int) < (N : Int)) = false := by rw [decide_eq_false_iff_not]; omega
      have hj2 : decide (j < N) = false := by rw [decide_eq_false_iff_not]; omega
      have he : Hid (ot = r.staged n) := by
        show _ = _
        rw [ho.out, List.take_of_length_le (by rw [hl.out, List.length_map]; have := hN.out; omega)]
        rfl
      clear hj
      go_wp2_with fail
      go_ret
      rw [← he.out]
      have H5 := H.out.at4.at4.at4.at4
      rw [← hN.out] at H5
      exact ⟨_, _, rfl, (RLogV.mk_ hl.out H5).at1⟩
set_option maxRecDepth 100000 in
theorem rupto25 (p : Nat) (n t : Int) (r : Rf) (vo : Value) (w w0 : World) (R : List HP) (H : Hs w0 w (RLogV p r vo :: R)) (hb : r.l.length ≤ 1000000) (hf : (r.l.flatMap (·.2.2.1)).length ≤ 1000000) :
    Calls Try.prog 25 #[.pointer (some ⟨p, 0, none⟩), .int .i64 n, .int .u64 t] w fun e w' => ∃ A c, e = .returned (.slice A (r.upto n t).length c) ∧ Hs w0 w' (Ls ERec 39 (.slice A (r.upto n t).length c) (r.upto n t) :: RLogV p r vo :: R) := by
  obtain ⟨A, c, A1, c1, zs, rfl, hl, H⟩ := RLogV.open_ H
  obtain ⟨N, hN⟩ : ∃ N, zs.length = N := ⟨_, rfl⟩
  rw [hN] at H
  have hbN : N ≤ 1000000 := by rw [hl, List.length_map] at hb; omega
  have k0 : w.cell? ⟨p, 0, none⟩ = some (.slice A N c) := H.cellOf 0 rfl
  have hcap := H.at1.ls_rd.caps.2
  replace hN := Lib.hid hN
  replace hl := Lib.hid hl
  replace H := Lib.hid H
  replace hf := Lib.hid hf
  clear hb
  go_enter Try.func25, Try.ntmps25
  go_wp2_with fail
  go_loopg [7, 8] N (fun k ov iv wr => ∃ (j : Nat) (A2 : Option Addr) (c2 : Nat) (ot : List Rec), k + j = N ∧ iv = .int .i64 j ∧ ov = .slice A2 ot.length c2 ∧ Hid (ot = ((r.l.take j).filter fun x => x.1 == n && decide (x.2.1 ≤ t)).flatMap (·.2.2.1)) ∧ Hid (Hs w0 wr (Ls ERec 39 (.slice A2 ot.length c2) ot :: Blk p (.cells #[.slice A N c, .slice A1 r.out.length c1] 31 (0, 0)) :: Ls ERt 71 (.slice A N c) (zs.map (·.1)) :: Ls ERec 39 (.slice A1 r.out.length c1) r.out :: RxS zs :: R)))
  case atStart => exact ⟨0, none, 0, [], rfl, rfl, rfl, by show _ = _; simp, H.out.ls_nil ERec 39⟩
  case round =>
    clear H k0
    obtain ⟨j, A2, c2, ot, hk, rfl, rfl, ho, H⟩ := hrel
    have hjN : j ≤ N := by omega
    replace hk := Lib.hid hk
    have k0 : wr.cell? ⟨p, 0, none⟩ = some (.slice A N c) := H.out.at1.cellOf 0 rfl
    rcases Nat.lt_or_ge j N with hj | hj
    · have hj0 : (0 : Int) ≤ (j : Int) := by omega
      have hj1 : (j : Int) < (N : Int) := by omega
      obtain ⟨z, hz⟩ : ∃ z, zs[j]? = some z := ⟨_, List.getElem?_eq_getElem (by have := hN.out; omega)⟩
      obtain ⟨g, off, rfl⟩ := H.out.at2.ls_rd.some_ (by have := hN.out; rw [List.length_map]; omega)
      obtain ⟨s0, s1, s2, _⟩ := rt_cells H.out.at2.ls_rd hz
      have hrz := Lib.hid (RxS.get zs j z H.out.at4 hz)
      have hstep : Hid (r.l.take (j + 1) = r.l.take j ++ [zm z]) := by show _ = _; rw [List.take_add_one, hl.out, List.getElem?_map, hz]; rfl
      replace hz := Lib.hid hz
      obtain ⟨⟨pz, nz, ⟨A3, m3, c3⟩, dz⟩, rz⟩ := z
      simp only at s0 s1 s2 hrz
      have hm3 := Lib.hid hrz.out.caps.1
      have hfin : Hid (∀ b, (pz == n && decide (nz ≤ t)) = b → ((r.l.take (j + 1)).filter fun x => x.1 == n && decide (x.2.1 ≤ t)).flatMap (·.2.2.1) = if b then ot ++ rz else ot) := by
        intro b hb
        rw [hstep.out, List.filter_append, List.flatMap_append, ← ho.out]
        simp only [zm, List.filter_cons, hb, List.filter_nil]
        cases b <;> simp
      have hbn : Hid (ot.length + rz.length ≤ 1000000) := by
        show _ ≤ _
        have h1 := hf.out
        have h3 := congrArg (fun l => (l.flatMap (fun x : RT => x.2.2.1)).length) (List.take_append_drop (j + 1) r.l)
        rw [hstep.out] at h3
        simp only [List.flatMap_append, List.length_append, List.flatMap_cons, List.flatMap_nil, List.append_nil, zm] at h3
        have h4 : ∀ l : List RT, ((l.filter fun x => x.1 == n && decide (x.2.1 ≤ t)).flatMap (·.2.2.1)).length ≤ (l.flatMap (·.2.2.1)).length := by
          intro l
          induction l with
          | nil => simp
          | cons a l ih =>
            rw [List.filter_cons]
            split
            · simp only [List.flatMap_cons, List.length_append]; omega
            · simp only [List.flatMap_cons, List.length_append]; omega
        have h5 := h4 (r.l.take j)
        rw [ho.out]
        omega
      by_cases hp : pz = n
      · subst hp
        by_cases hnt : nz ≤ t
        · have hb1 : decide (nz ≤ t) = true := by simpa using hnt
          have hb2 := Lib.hid hb1
          clear hnt
          go_wp2_with (at_builtin; refine wpList_appendL rfl (.tmp 40) (.tmp 48) 29 rfl 39 _ 3 24 Try.underlying29 infoc29 rfl (by decide) (by decide) rfl rfl _ rfl H.out hrz.out (by have := hbn.out; omega) ?_)
          intro A4 c4 w3 H3
          go_wp2_with fail
          go_roundg (N - (j + 1))
          case measure => have := hk.out; omega
          case rel =>
            rw [← List.length_append] at H3
            exact ⟨j + 1, A4, c4, ot ++ rz, by have := hk.out; omega, by go_num, by rw [List.length_append], by show _ = _; rw [hfin.out true (by rw [hb2.out]; simp)]; rfl, H3⟩
        · have hb1 : decide (nz ≤ t) = false := by simpa using hnt
          have hb2 := Lib.hid hb1
          clear hnt
          go_wp2_with fail
          go_roundg (N - (j + 1))
          case measure => have := hk.out; omega
          case rel => exact ⟨j + 1, A2, c2, ot, by have := hk.out; omega, by go_num, rfl, by show _ = _; rw [hfin.out false (by rw [hb2.out]; simp)]; rfl, H⟩
      · have hpb : (pz == n) = false := by rw [beq_eq_false_iff_ne]; exact hp
        have hpb' := Lib.hid hpb
        clear hp
        go_wp2_with fail
        go_roundg (N - (j + 1))
        case measure => have := hk.out; omega
        case rel => exact ⟨j + 1, A2, c2, ot, by have := hk.out; omega, by go_num, rfl, by show _ = _; rw [hfin.out false (by rw [hpb'.out]; rfl)]; rfl, H⟩
    · have hj1 : decide ((j : Int) < (N : Int)) = false := by rw [decide_eq_false_iff_not]; omega
      have hj2 : decide (j < N) = false := by rw [decide_eq_false_iff_not]; omega
      have he : Hid (ot = r.upto n t) := by
        show _ = _
        rw [ho.out, List.take_of_length_le (by rw [hl.out, List.length_map]; have := hN.out; omega)]
        rfl
      clear hj
      go_wp2_with fail
      go_ret
      rw [← he.out]
      have H5 := H.out.at4.at4.at4.at4
      rw [← hN.out] at H5
      exact ⟨_, _, rfl, (RLogV.mk_ hl.out H5).at1⟩
set_option maxRecDepth 100000 in
theorem rabort16 (p : Nat) (n t : Int) (r : Rf) (w w0 : World) (R : List HP) (H : Hs w0 w (RLog p r :: R)) (hb : r.l.length ≤ 1000000) :
    Calls Try.prog 16 #[.pointer (some ⟨p, 0, none⟩), .int .i64 n, .int .u64 t] w fun e w' => e = .returned (.tuple #[]) ∧ Hs w0 w' (RLog p (r.abort n t) :: R) := by
  obtain ⟨A, c, A1, c1, zs, hl, H⟩ := RLog.open_ H
  obtain ⟨N, hN⟩ : ∃ N, zs.length = N := ⟨_, rfl⟩
  rw [hN] at H
  have hbN : N ≤ 1000000 := by rw [hl, List.length_map] at hb; omega
  have k0 : w.cell? ⟨p, 0, none⟩ = some (.slice A N c) := H.cellOf 0 rfl
  have hcap := H.at1.ls_rd.caps.2
  replace hN := Lib.hid hN
  replace hl := Lib.hid hl
  replace H := Lib.hid H
  clear hb
  obtain ⟨kp, hkp⟩ : ∃ kp : ZT → Bool, kp = fun z => z.1.1 != n || z.1.2.2.2 || decide (z.1.2.1 ≤ t) := ⟨_, rfl⟩
  replace hkp := Lib.hid hkp
  go_enter Try.func16, Try.ntmps16
  go_wp2_with fail
  go_loopg [6, 7] N (fun k ov iv wr => ∃ (j : Nat) (A2 : Option Addr) (c2 : Nat) (ot : List ZT), k + j = N ∧ iv = .int .i64 j ∧ ov = .slice A2 ot.length c2 ∧ ot.length ≤ j ∧ Hid (ot = (zs.take j).filter kp) ∧ Hid (Hs w0 wr (Ls ERt 71 (.slice A2 ot.length c2) (ot.map (·.1)) :: Blk p (.cells #[.slice A N c, .slice A1 r.out.length c1] 31 (0, 0)) :: Ls ERt 71 (.slice A N c) (zs.map (·.1)) :: Ls ERec 39 (.slice A1 r.out.length c1) r.out :: RxS zs :: R)))
  case atStart => exact ⟨0, none, 0, [], rfl, rfl, rfl, by simp, by show _ = _; simp, H.out.ls_nil ERt 71⟩
  case round =>
    clear H k0
    obtain ⟨j, A2, c2, ot, hk, rfl, rfl, hoj, ho, H⟩ := hrel
    have hjN : j ≤ N := by omega
    replace hk := Lib.hid hk
    have k0 : wr.cell? ⟨p, 0, none⟩ = some (.slice A N c) := H.out.at1.cellOf 0 rfl
    rcases Nat.lt_or_ge j N with hj | hj
    · have hj0 : (0 : Int) ≤ (j : Int) := by omega
      have hj1 : (j : Int) < (N : Int) := by omega
      obtain ⟨z, hz⟩ : ∃ z, zs[j]? = some z := ⟨_, List.getElem?_eq_getElem (by have := hN.out; omega)⟩
      obtain ⟨g, off, rfl⟩ := H.out.at2.ls_rd.some_ (by have := hN.out; rw [List.length_map]; omega)
      obtain ⟨s0, s1, s2, s3⟩ := rt_cells H.out.at2.ls_rd hz
      have hstep : Hid (zs.take (j + 1) = zs.take j ++ [z]) := by show _ = _; rw [List.take_add_one, hz]; rfl
      replace hz := Lib.hid hz
      obtain ⟨⟨pz, nz, ⟨A3, m3, c3⟩, dz⟩, rz⟩ := z
      simp only at s0 s1 s2 s3
      have hfin : Hid (∀ b, (pz != n || dz || decide (nz ≤ t)) = b → (zs.take (j + 1)).filter kp = if b then ot ++ [((pz, nz, (A3, m3, c3), dz), rz)] else ot) := by
        intro b hb
        rw [hstep.out, List.filter_append, ← ho.out]
        simp only [List.filter_cons, List.filter_nil, hkp.out, hb]
        cases b <;> simp
      have hlm : Hid ((ot.map (fun z : ZT => z.1)).length = ot.length) := List.length_map ..
      have keep : Hid ((pz != n || dz || decide (nz ≤ t)) = true → ∀ (A4 : Option Addr) (c4 : Nat) (w3 : World), Hs w0 w3 (Ls ERt 71 (.slice A4 (ot.length + 1) c4) (ot.map (·.1) ++ [(pz, nz, (A3, m3, c3), dz)]) :: Blk p (.cells #[.slice (some ⟨g, off, none⟩) N c, .slice A1 r.out.length c1] 31 (0, 0)) :: Ls ERt 71 (.slice (some ⟨g, off, none⟩) N c) (zs.map (·.1)) :: Ls ERec 39 (.slice A1 r.out.length c1) r.out :: RxS zs :: R) →
          ∃ (j' : Nat) (A2 : Option Addr) (c2 : Nat) (ot' : List ZT), N - (j + 1) + j' = N ∧ Value.int .i64 ((j : Int) + 1) = .int .i64 j' ∧ Value.slice A4 (ot.length + 1) c4 = .slice A2 ot'.length c2 ∧ ot'.length ≤ j' ∧ Hid (ot' = (zs.take j').filter kp) ∧ Hid (Hs w0 w3 (Ls ERt 71 (.slice A2 ot'.length c2) (ot'.map (·.1)) :: Blk p (.cells #[.slice (some ⟨g, off, none⟩) N c, .slice A1 r.out.length c1] 31 (0, 0)) :: Ls ERt 71 (.slice (some ⟨g, off, none⟩) N c) (zs.map (·.1)) :: Ls ERec 39 (.slice A1 r.out.length c1) r.out :: RxS zs :: R))) := by
        intro hb A4 c4 w3 H3
        refine ⟨j + 1, A4, c4, ot ++ [((pz, nz, (A3, m3, c3), dz), rz)], by omega, rfl, by simp, by simp; omega, by show _ = _; rw [hfin.out true hb]; rfl, ?_⟩
        show Hs _ _ _
        rw [List.map_append, List.length_append]
        exact H3
      by_cases hp : pz = n
      · subst hp
        cases dz with
        | true =>
          have hpb : (pz != pz) = false := by simp
          go_wp2_with (at_builtin; refine wpList_append1N (E := ERt) ot.length hlm.out rfl (.tmp 49) (.tmp 57) 28 rfl 71 _ 4 48 Try.underlying28 info71 rfl (by decide) (by decide) rfl rfl rfl (by simp) H.out (pz, nz, (A3, m3, c3), true) (by omega) ?_)
          intro A4 c4 w3 H3
          go_wp2_with fail
          go_roundg (N - (j + 1))
          case measure => have := hk.out; omega
          case rel => exact keep.out (by simp) A4 c4 _ H3
        | false =>
          by_cases hnt : nz ≤ t
          · have hb1 : decide (nz ≤ t) = true := by simpa using hnt
            have hb2 := Lib.hid hb1
            have hpb : (pz != pz) = false := by simp
            clear hnt
            go_wp2_with (at_builtin; refine wpList_append1N (E := ERt) ot.length hlm.out rfl (.tmp 49) (.tmp 57) 28 rfl 71 _ 4 48 Try.underlying28 info71 rfl (by decide) (by decide) rfl rfl rfl (by simp) H.out (pz, nz, (A3, m3, c3), false) (by omega) ?_)
            intro A4 c4 w3 H3
            go_wp2_with fail
            go_roundg (N - (j + 1))
            case measure => have := hk.out; omega
            case rel => exact keep.out (by rw [hb2.out]; simp) A4 c4 _ H3
          · have hb1 : decide (nz ≤ t) = false := by simpa using hnt
            have hb2 := Lib.hid hb1
            have hpb : (pz != pz) = false := by simp
            clear hnt
            go_wp2_with fail
            go_roundg (N - (j + 1))
            case measure => have := hk.out; omega
            case rel => exact ⟨j + 1, A2, c2, ot, by have := hk.out; omega, by go_num, rfl, by omega, by show _ = _; rw [hfin.out false (by rw [hb2.out]; simp)]; rfl, H⟩
      · have hpb : (pz != n) = true := by rw [bne_iff_ne]; exact hp
        have hpb' := Lib.hid hpb
        clear hp
        go_wp2_with (at_builtin; refine wpList_append1N (E := ERt) ot.length hlm.out rfl (.tmp 49) (.tmp 57) 28 rfl 71 _ 4 48 Try.underlying28 info71 rfl (by decide) (by decide) rfl rfl rfl (by simp) H.out (pz, nz, (A3, m3, c3), dz) (by omega) ?_)
        intro A4 c4 w3 H3
        go_wp2_with fail
        go_roundg (N - (j + 1))
        case measure => have := hk.out; omega
        case rel => exact keep.out (by rw [hpb'.out]; simp) A4 c4 _ H3
    · have hj1 : decide ((j : Int) < (N : Int)) = false := by rw [decide_eq_false_iff_not]; omega
      have hj2 : decide (j < N) = false := by rw [decide_eq_false_iff_not]; omega
      have he : Hid (ot = zs.filter kp) := by
        show _ = _
        rw [ho.out, List.take_of_length_le (by have := hN.out; omega)]
      have f0 := H.out.at1.frozenOf 0
      clear hj
      go_wp2_with fail
      go_end0
      have H5 := (H.out.at1.setCell (i := 0) (.slice A2 ot.length c2)).at4
      have H6 := RxS.filter kp zs H5
      rw [← he.out] at H6
      refine ⟨rfl, RLog.mk_ (zs := ot) ?_ (H6.at3.tail.at3.at3.at3)⟩
      rw [he.out, hkp.out]
      show r.l.filter _ = _
      rw [hl.out, List.filter_map]
      rfl
end Go.Proofs.Ytjlonfldcmcchaa

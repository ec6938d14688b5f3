import Derived.Test.YtlpcofjmleghdaaSv
import Derived.IntWalk
import Derived.Conc.LoneSelect
import Derived.Test.YtlpcofjmleghdaaProg
import Derived.Test.YtlpcofjmleghdaaLs
import Derived.Outline
import Derived.StillTailTactics
import Derived.Deep.DeepCutAuto
import Derived.Deep.CutBlock
import Derived.Deep.LoopGhost
import Derived.Deep.QuietTactic
import Derived.BigQuiet
import Derived.Deep.RegionHeld3
import Derived.Deep.RegionLaw
set_option linter.unusedVariables false
set_option linter.unusedSimpArgs false
namespace Go.Proofs.Ytlpcofjmleghdaa
open Go.RowKit
open Go.Conc
set_option maxRecDepth 100000 in
theorem sendroom10 (p c cap s r : Nat) (buf : Array Value) (x : Int) (w : World) (hp : w.cell? ⟨p, 0, none⟩ = some (.chan (some c))) (hc : w.heap[c]? = some (.chan cap buf false s r false)) (hroom : buf.size < cap) :
    Calls Try.prog 10 #[.pointer (some ⟨p, 0, none⟩), .int .i64 x] w fun e w' => e = .returned (.bool true) ∧ w' = w.setChan c cap (buf.push (.int .i64 x)) false (s + 1) r false := by
  refine calls_of_loneTo fun cs => ?_
  have e : Frame.enter Try.prog 10 #[.pointer (some ⟨p, 0, none⟩), .int .i64 x] .normal = (base 10).at ⟨#[.pointer (some ⟨p, 0, none⟩), .int .i64 x, undef, undef, undef, undef, undef, undef, undef, undef, undef, undef, undef], []⟩ [.code (Try.f10.body.getD .skip)] := by
    simp [Frame.enter, Frame.at, Try.func10, base, Try.f10]
  rw [e]
  refine LoneTo.goes (n := 40) ?_
  simp only [Try.f10, Option.getD_some]
  s_c stepG_seq
  s_reg
  s_op
  s_c stepG_region_end
  s_c stepG_seq
  s_c stepG_seq
  s_reg
  s_op
  s_op
  s_op
  s_op
  s_c stepG_region_end
  s_reg
  s_op
  s_c stepG_region_end
  s_c stepG_seq
  s_reg
  s_stop
  refine LoneTo.step (step_lone_select_send_room (c := c) (cap := cap) (buf := buf) (s := s) (r := r) (tm := false) (stepG_comm (cases := #[scase c (.int .i64 x) (.int .i64 0)]) (blocking := false) (shape := .select) (w' := w) rfl rfl (by decide) (by simp [go_sem, execOp, scase, Act.eval])) hc hroom) ?_
  rw [Frame.finish_at]
  walk_nrm
  refine LoneTo.goes (n := 20) ?_
  s_op
  s_op
  s_c stepG_region_end
  s_c stepG_block
  s_cond true
  s_c stepG_seq
  s_reg
  s_op
  s_c stepG_region_end
  s_c stepG_ret'
  s_stop
  exact LoneTo.done ⟨.returned (.bool true), _, rfl, ⟨rfl, rfl⟩, rfl, rfl, rfl, rfl, _, Try.func10, by simp [results, Try.f10, Frame.at]⟩
set_option maxRecDepth 100000 in
theorem sendfull10 (p c cap s r : Nat) (buf : Array Value) (x : Int) (w : World) (hp : w.cell? ⟨p, 0, none⟩ = some (.chan (some c))) (hc : w.heap[c]? = some (.chan cap buf false s r false)) (hroom : cap ≤ buf.size) :
    Calls Try.prog 10 #[.pointer (some ⟨p, 0, none⟩), .int .i64 x] w fun e w' => e = .returned (.bool false) ∧ w' = w := by
  refine calls_of_loneTo fun cs => ?_
  have e : Frame.enter Try.prog 10 #[.pointer (some ⟨p, 0, none⟩), .int .i64 x] .normal = (base 10).at ⟨#[.pointer (some ⟨p, 0, none⟩), .int .i64 x, undef, undef, undef, undef, undef, undef, undef, undef, undef, undef, undef], []⟩ [.code (Try.f10.body.getD .skip)] := by
    simp [Frame.enter, Frame.at, Try.func10, base, Try.f10]
  rw [e]
  refine LoneTo.goes (n := 40) ?_
  simp only [Try.f10, Option.getD_some]
  s_c stepG_seq
  s_reg
  s_op
  s_c stepG_region_end
  s_c stepG_seq
  s_c stepG_seq
  s_reg
  s_op
  s_op
  s_op
  s_op
  s_c stepG_region_end
  s_reg
  s_op
  s_c stepG_region_end
  s_c stepG_seq
  s_reg
  s_stop
  refine LoneTo.step (step_lone_select_send_full (c := c) (cap := cap) (buf := buf) (s := s) (r := r) (tm := false) (stepG_comm (cases := #[scase c (.int .i64 x) (.int .i64 0)]) (blocking := false) (shape := .select) (w' := w) rfl rfl (by decide) (by simp [go_sem, execOp, scase, Act.eval])) hc hroom) ?_
  rw [Frame.finish_at]
  walk_nrm
  refine LoneTo.goes (n := 20) ?_
  s_op
  s_op
  s_c stepG_region_end
  s_c stepG_block
  s_cond false
  s_c stepG_seq
  s_reg
  s_op
  s_c stepG_region_end
  s_c stepG_ret'
  s_stop
  exact LoneTo.done ⟨.returned (.bool false), _, rfl, ⟨rfl, rfl⟩, rfl, rfl, rfl, rfl, _, Try.func10, by simp [results, Try.f10, Frame.at]⟩
set_option maxRecDepth 100000 in
theorem recvsome11 (p c cap s r : Nat) (buf : Array Value) (x : Int) (w : World) (hp : w.cell? ⟨p, 0, none⟩ = some (.chan (some c))) (hc : w.heap[c]? = some (.chan cap buf false s r false)) (hb : buf[0]? = some (.int .i64 x)) :
    Calls Try.prog 11 #[.pointer (some ⟨p, 0, none⟩)] w fun e w' => e = .returned (.tuple #[.int .i64 x, .bool true]) ∧ w' = w.setChan c cap (buf.extract 1 buf.size) false s (r + 1) false := by
  have hsz : 0 < buf.size := (Array.getElem?_eq_some_iff.1 hb).1
  have hg : buf.getD 0 undef = .int .i64 x := by rw [Array.getD_eq_getD_getElem?, hb]; rfl
  refine calls_of_loneTo fun cs => ?_
  have e : Frame.enter Try.prog 11 #[.pointer (some ⟨p, 0, none⟩)] .normal = (base 11).at ⟨#[.pointer (some ⟨p, 0, none⟩), undef, undef, undef, undef, undef, undef, undef, undef, undef, undef, undef, undef, undef, undef, undef], []⟩ [.code (Try.f11.body.getD .skip)] := by
    simp [Frame.enter, Frame.at, Try.func11, base, Try.f11]
  rw [e]
  refine LoneTo.goes (n := 40) ?_
  simp only [Try.f11, Option.getD_some]
  s_c stepG_seq
  s_reg
  s_op
  s_op
  s_c stepG_region_end
  s_c stepG_seq
  s_reg
  s_op
  s_op
  s_op
  s_op
  s_c stepG_region_end
  s_c stepG_seq
  s_reg
  s_stop
  refine LoneTo.step (step_lone_select_recv_buf (c := c) (z := .int .i64 0) (stepG_comm (cases := #[rcase c (.int .i64 0)]) (blocking := false) (shape := .select) (w' := w) rfl rfl (by decide) (by simp [go_sem, execOp, rcase, Act.eval])) hc hsz) ?_
  rw [hg]
  rw [Frame.finish_at]
  walk_nrm
  refine LoneTo.goes (n := 30) ?_
  s_op
  s_op
  s_c stepG_region_end
  s_c stepG_block
  s_cond true
  s_c stepG_seq
  s_reg
  s_op
  s_op
  s_c stepG_region_end
  s_c stepG_seq
  s_reg
  s_op
  s_op
  s_op
  s_c stepG_region_end
  s_c stepG_ret'
  s_stop
  exact LoneTo.done ⟨.returned (.tuple #[.int .i64 x, .bool true]), _, rfl, ⟨rfl, rfl⟩, rfl, rfl, rfl, rfl, _, Try.func11, by simp [results, Try.f11, Frame.at]⟩
set_option maxRecDepth 100000 in
theorem recvnone11 (p c cap s r : Nat) (buf : Array Value) (w : World) (hp : w.cell? ⟨p, 0, none⟩ = some (.chan (some c))) (hc : w.heap[c]? = some (.chan cap buf false s r false)) (hb : buf = #[]) :
    Calls Try.prog 11 #[.pointer (some ⟨p, 0, none⟩)] w fun e w' => e = .returned (.tuple #[.int .i64 0, .bool false]) ∧ w' = w := by
  subst hb
  refine calls_of_loneTo fun cs => ?_
  have e : Frame.enter Try.prog 11 #[.pointer (some ⟨p, 0, none⟩)] .normal = (base 11).at ⟨#[.pointer (some ⟨p, 0, none⟩), undef, undef, undef, undef, undef, undef, undef, undef, undef, undef, undef, undef, undef, undef, undef], []⟩ [.code (Try.f11.body.getD .skip)] := by
    simp [Frame.enter, Frame.at, Try.func11, base, Try.f11]
  rw [e]
  refine LoneTo.goes (n := 40) ?_
  simp only [Try.f11, Option.getD_some]
  s_c stepG_seq
  s_reg
  s_op
  s_op
  s_c stepG_region_end
  s_c stepG_seq
  s_reg
  s_op
  s_op
  s_op
  s_op
  s_c stepG_region_end
  s_c stepG_seq
  s_reg
  s_stop
  refine LoneTo.step (step_lone_select_default (c := c) (z := .int .i64 0) (stepG_comm (cases := #[rcase c (.int .i64 0)]) (blocking := false) (shape := .select) (w' := w) rfl rfl (by decide) (by simp [go_sem, execOp, rcase, Act.eval])) hc) ?_
  rw [Frame.finish_at]
  walk_nrm
  refine LoneTo.goes (n := 30) ?_
  s_op
  s_op
  s_c stepG_region_end
  s_c stepG_block
  s_cond false
  s_c stepG_seq
  s_reg
  s_op
  s_c stepG_region_end
  s_c stepG_seq
  s_reg
  s_op
  s_op
  s_op
  s_c stepG_region_end
  s_c stepG_ret'
  s_stop
  exact LoneTo.done ⟨.returned (.tuple #[.int .i64 0, .bool false]), _, rfl, ⟨rfl, rfl⟩, rfl, rfl, rfl, rfl, _, Try.func11, by simp [results, Try.f11, Frame.at]⟩
set_option maxRecDepth 100000 in
theorem sendroom35 (p c cap s r : Nat) (buf : Array Value) (x : ByteArray) (w : World) (hp : w.cell? ⟨p, 0, none⟩ = some (.chan (some c))) (hc : w.heap[c]? = some (.chan cap buf false s r false)) (hroom : buf.size < cap) :
    Calls Try.prog 35 #[.pointer (some ⟨p, 0, none⟩), .string x] w fun e w' => e = .returned (.bool true) ∧ w' = w.setChan c cap (buf.push (.string x)) false (s + 1) r false := by
  refine calls_of_loneTo fun cs => ?_
  have e : Frame.enter Try.prog 35 #[.pointer (some ⟨p, 0, none⟩), .string x] .normal = (base 35).at ⟨#[.pointer (some ⟨p, 0, none⟩), .string x, undef, undef, undef, undef, undef, undef, undef, undef, undef, undef, undef], []⟩ [.code (Try.f35.body.getD .skip)] := by
    simp [Frame.enter, Frame.at, Try.func35, base, Try.f35]
  rw [e]
  refine LoneTo.goes (n := 40) ?_
  simp only [Try.f35, Option.getD_some]
  s_c stepG_seq
  s_reg
  s_op
  s_c stepG_region_end
  s_c stepG_seq
  s_c stepG_seq
  s_reg
  s_op
  s_op
  s_op
  s_op
  s_c stepG_region_end
  s_reg
  s_op
  s_c stepG_region_end
  s_c stepG_seq
  s_reg
  s_stop
  refine LoneTo.step (step_lone_select_send_room (c := c) (cap := cap) (buf := buf) (s := s) (r := r) (tm := false) (stepG_comm (cases := #[scase c (.string x) (.string ⟨#[]⟩)]) (blocking := false) (shape := .select) (w' := w) rfl rfl (by decide) (by simp [go_sem, execOp, scase, Act.eval])) hc hroom) ?_
  rw [Frame.finish_at]
  walk_nrm
  refine LoneTo.goes (n := 20) ?_
  s_op
  s_op
  s_c stepG_region_end
  s_c stepG_block
  s_cond true
  s_c stepG_seq
  s_reg
  s_op
  s_c stepG_region_end
  s_c stepG_ret'
  s_stop
  exact LoneTo.done ⟨.returned (.bool true), _, rfl, ⟨rfl, rfl⟩, rfl, rfl, rfl, rfl, _, Try.func35, by simp [results, Try.f35, Frame.at]⟩
set_option maxRecDepth 100000 in
theorem sendfull35 (p c cap s r : Nat) (buf : Array Value) (x : ByteArray) (w : World) (hp : w.cell? ⟨p, 0, none⟩ = some (.chan (some c))) (hc : w.heap[c]? = some (.chan cap buf false s r false)) (hroom : cap ≤ buf.size) :
    Calls Try.prog 35 #[.pointer (some ⟨p, 0, none⟩), .string x] w fun e w' => e = .returned (.bool false) ∧ w' = w := by
  refine calls_of_loneTo fun cs => ?_
  have e : Frame.enter Try.prog 35 #[.pointer (some ⟨p, 0, none⟩), .string x] .normal = (base 35).at ⟨#[.pointer (some ⟨p, 0, none⟩), .string x, undef, undef, undef, undef, undef, undef, undef, undef, undef, undef, undef], []⟩ [.code (Try.f35.body.getD .skip)] := by
    simp [Frame.enter, Frame.at, Try.func35, base, Try.f35]
  rw [e]
  refine LoneTo.goes (n := 40) ?_
  simp only [Try.f35, Option.getD_some]
  s_c stepG_seq
  s_reg
  s_op
  s_c stepG_region_end
  s_c stepG_seq
  s_c stepG_seq
  s_reg
  s_op
  s_op
  s_op
  s_op
  s_c stepG_region_end
  s_reg
  s_op
  s_c stepG_region_end
  s_c stepG_seq
  s_reg
  s_stop
  refine LoneTo.step (step_lone_select_send_full (c := c) (cap := cap) (buf := buf) (s := s) (r := r) (tm := false) (stepG_comm (cases := #[scase c (.string x) (.string ⟨#[]⟩)]) (blocking := false) (shape := .select) (w' := w) rfl rfl (by decide) (by simp [go_sem, execOp, scase, Act.eval])) hc hroom) ?_
  rw [Frame.finish_at]
  walk_nrm
  refine LoneTo.goes (n := 20) ?_
  s_op
  s_op
  s_c stepG_region_end
  s_c stepG_block
  s_cond false
  s_c stepG_seq
  s_reg
  s_op
  s_c stepG_region_end
  s_c stepG_ret'
  s_stop
  exact LoneTo.done ⟨.returned (.bool false), _, rfl, ⟨rfl, rfl⟩, rfl, rfl, rfl, rfl, _, Try.func35, by simp [results, Try.f35, Frame.at]⟩
set_option maxRecDepth 100000 in
theorem recvsome45 (p c cap s r : Nat) (buf : Array Value) (x : ByteArray) (w : World) (hp : w.cell? ⟨p, 0, none⟩ = some (.chan (some c))) (hc : w.heap[c]? = some (.chan cap buf false s r false)) (hb : buf[0]? = some (.string x)) :
    Calls Try.prog 45 #[.pointer (some ⟨p, 0, none⟩)] w fun e w' => e = .returned (.tuple #[.string x, .bool true]) ∧ w' = w.setChan c cap (buf.extract 1 buf.size) false s (r + 1) false := by
  have hsz : 0 < buf.size := (Array.getElem?_eq_some_iff.1 hb).1
  have hg : buf.getD 0 undef = .string x := by rw [Array.getD_eq_getD_getElem?, hb]; rfl
  refine calls_of_loneTo fun cs => ?_
  have e : Frame.enter Try.prog 45 #[.pointer (some ⟨p, 0, none⟩)] .normal = (base 45).at ⟨#[.pointer (some ⟨p, 0, none⟩), undef, undef, undef, undef, undef, undef, undef, undef, undef, undef, undef, undef, undef, undef, undef], []⟩ [.code (Try.f45.body.getD .skip)] := by
    simp [Frame.enter, Frame.at, Try.func45, base, Try.f45]
  rw [e]
  refine LoneTo.goes (n := 40) ?_
  simp only [Try.f45, Option.getD_some]
  s_c stepG_seq
  s_reg
  s_op
  s_op
  s_c stepG_region_end
  s_c stepG_seq
  s_reg
  s_op
  s_op
  s_op
  s_op
  s_c stepG_region_end
  s_c stepG_seq
  s_reg
  s_stop
  refine LoneTo.step (step_lone_select_recv_buf (c := c) (z := .string ⟨#[]⟩) (stepG_comm (cases := #[rcase c (.string ⟨#[]⟩)]) (blocking := false) (shape := .select) (w' := w) rfl rfl (by decide) (by simp [go_sem, execOp, rcase, Act.eval])) hc hsz) ?_
  rw [hg]
  rw [Frame.finish_at]
  walk_nrm
  refine LoneTo.goes (n := 30) ?_
  s_op
  s_op
  s_c stepG_region_end
  s_c stepG_block
  s_cond true
  s_c stepG_seq
  s_reg
  s_op
  s_op
  s_c stepG_region_end
  s_c stepG_seq
  s_reg
  s_op
  s_op
  s_op
  s_c stepG_region_end
  s_c stepG_ret'
  s_stop
  exact LoneTo.done ⟨.returned (.tuple #[.string x, .bool true]), _, rfl, ⟨rfl, rfl⟩, rfl, rfl, rfl, rfl, _, Try.func45, by simp [results, Try.f45, Frame.at]⟩
set_option maxRecDepth 100000 in
theorem recvnone45 (p c cap s r : Nat) (buf : Array Value) (w : World) (hp : w.cell? ⟨p, 0, none⟩ = some (.chan (some c))) (hc : w.heap[c]? = some (.chan cap buf false s r false)) (hb : buf = #[]) :
    Calls Try.prog 45 #[.pointer (some ⟨p, 0, none⟩)] w fun e w' => e = .returned (.tuple #[.string ⟨#[]⟩, .bool false]) ∧ w' = w := by
  subst hb
  refine calls_of_loneTo fun cs => ?_
  have e : Frame.enter Try.prog 45 #[.pointer (some ⟨p, 0, none⟩)] .normal = (base 45).at ⟨#[.pointer (some ⟨p, 0, none⟩), undef, undef, undef, undef, undef, undef, undef, undef, undef, undef, undef, undef, undef, undef, undef], []⟩ [.code (Try.f45.body.getD .skip)] := by
    simp [Frame.enter, Frame.at, Try.func45, base, Try.f45]
  rw [e]
  refine LoneTo.goes (n := 40) ?_
  simp only [Try.f45, Option.getD_some]
  s_c stepG_seq
  s_reg
  s_op
  s_op
  s_c stepG_region_end
  s_c stepG_seq
  s_reg
  s_op
  s_op
  s_op
  s_op
  s_c stepG_region_end
  s_c stepG_seq
  s_reg
  s_stop
  refine LoneTo.step (step_lone_select_default (c := c) (z := .string ⟨#[]⟩) (stepG_comm (cases := #[rcase c (.string ⟨#[]⟩)]) (blocking := false) (shape := .select) (w' := w) rfl rfl (by decide) (by simp [go_sem, execOp, rcase, Act.eval])) hc) ?_
  rw [Frame.finish_at]
  walk_nrm
  refine LoneTo.goes (n := 30) ?_
  s_op
  s_op
  s_c stepG_region_end
  s_c stepG_block
  s_cond false
  s_c stepG_seq
  s_reg
  s_op
  s_c stepG_region_end
  s_c stepG_seq
  s_reg
  s_op
  s_op
  s_op
  s_c stepG_region_end
  s_c stepG_ret'
  s_stop
  exact LoneTo.done ⟨.returned (.tuple #[.string ⟨#[]⟩, .bool false]), _, rfl, ⟨rfl, rfl⟩, rfl, rfl, rfl, rfl, _, Try.func45, by simp [results, Try.f45, Frame.at]⟩
end Go.Proofs.Ytlpcofjmleghdaa

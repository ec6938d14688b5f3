import Derived.Test.YthjinahfhpgpmaaOw
import Derived.Test.YthjinahfhpgpmaaSy
import Derived.Test.YthjinahfhpgpmaaMb
import Derived.Test.YthjinahfhpgpmaaProg
import Derived.Test.YthjinahfhpgpmaaLs
import Derived.Outline
import Derived.StillTailTactics
import Derived.Deep.DeepCutAuto
import Derived.Deep.CutBlock
import Derived.Deep.LoopGhost
import Derived.Deep.QuietTactic
import Derived.BigQuiet
import Derived.Deep.RegionHeld3
import Derived.Deep.RegionLaw
set_option linter.unusedVariables false
set_option linter.unusedSimpArgs false
namespace Go.Proofs.Ythjinahfhpgpmaa
open Go.RowKit
theorem mixed : Try.prog.follows .mixedOrders = true := by kernel_rfl
/-! ### the coordinator -/
abbrev Ctl := Int × Int × Int × Int
abbrev ECtl : Enc Ctl := (Enc.num .i64).pair ((Enc.num .u64).pair ((Enc.num .u64).pair (Enc.num .i64)))
structure Co where (tasks sinks : List Int) (interval timeout epoch from_ last : Int) (ready acked : Int → Bool) (done : Int → Int) (under durable : Int) (stored : Bool) (limit ticks began since : Int)
structure Vs where (vt vs : Value) (m1 m2 m3 : Nat)
abbrev MB (b : Nat) (f : Int → Bool) : HP := Mf .i64 Value.bool false b f
abbrev MU (b : Nat) (f : Int → Int) : HP := Mf .i64 (Value.int .u64) 0 b f
def coCells (v : Vs) (s : Co) : Array Value := #[v.vt, v.vs, .int .i64 s.interval, .int .i64 s.timeout, .int .u64 s.epoch, .int .u64 s.from_, .int .u64 s.last, .map (some v.m1), .map (some v.m2), .map (some v.m3), .int .u64 s.under, .int .u64 s.durable, .bool s.stored, .int .i64 s.limit, .int .i64 s.ticks, .int .i64 s.began, .int .i64 s.since]
def CoV (p : Nat) (v : Vs) (s : Co) : HP := Star (Blk p (.cells (coCells v s) 51 (0, 0))) (Star (Ls (Enc.num .i64) 3 v.vt s.tasks) (Star (Ls (Enc.num .i64) 3 v.vs s.sinks) (Star (MB v.m1 s.ready) (Star (MB v.m2 s.acked) (MU v.m3 s.done)))))
def CoP (p : Nat) (s : Co) : HP := Ex fun v => CoV p v s
section
variable {w0 w : World} {R : List HP} {p : Nat} {v : Vs} {s : Co}
theorem CoV.open_ (H : Hs w0 w (CoV p v s :: R)) : Hs w0 w (Blk p (.cells (coCells v s) 51 (0, 0)) :: Ls (Enc.num .i64) 3 v.vt s.tasks :: Ls (Enc.num .i64) 3 v.vs s.sinks :: MB v.m1 s.ready :: MB v.m2 s.acked :: MU v.m3 s.done :: R) := by
  have H := H.part.at1.part.at1.part.at1.part.at1.part
  exact H.at2.at3.at4.at5
theorem CoV.mk_ (H : Hs w0 w (Blk p (.cells (coCells v s) 51 (0, 0)) :: Ls (Enc.num .i64) 3 v.vt s.tasks :: Ls (Enc.num .i64) 3 v.vs s.sinks :: MB v.m1 s.ready :: MB v.m2 s.acked :: MU v.m3 s.done :: R)) : Hs w0 w (CoV p v s :: R) := by
  have H : Hs w0 w (Star _ (Star _ (Star _ (Star _ (Star _ _)))) :: R) := H.at5.at5.join.at4.join.at3.join.at2.join.at1.join
  exact H
theorem CoV.cell (H : Hs w0 w (CoV p v s :: R)) (i : Nat) {u : Value} (h : (coCells v s)[i]? = some u) : w.cell? ⟨p, i, none⟩ = some u := (CoV.open_ H).cellOf i h
theorem CoV.free (H : Hs w0 w (CoV p v s :: R)) (i : Nat) : w.frozen? ⟨p, i, none⟩ = false := (CoV.open_ H).frozenOf i
theorem CoV.tasks (H : Hs w0 w (CoV p v s :: R)) : RdL (Enc.num .i64) w v.vt s.tasks := (CoV.open_ H).at1.ls_rd
theorem CoV.sinks (H : Hs w0 w (CoV p v s :: R)) : RdL (Enc.num .i64) w v.vs s.sinks := (CoV.open_ H).at2.ls_rd
end
theorem zeroBo (w : World) : (zeroValue 4).run Try.prog w = .ok (.bool false) w := by kernel_rfl
theorem zeroU (w : World) : (zeroValue 29).run Try.prog w = .ok (.int .u64 0) w := by kernel_rfl
section
variable {w0 w : World} {R : List HP} {p : Nat} {v : Vs} {s : Co}
theorem CoV.look1 (H : Hs w0 w (CoV p v s :: R)) (t : Int) : (Instr.lookup 48 (.map (some v.m1)) (.int .i64 t) false).run Try.prog w = .ok (.bool (s.ready t)) w :=
  (CoV.open_ H).at3.mf_look 48 3 4 Try.underlying48 Try.underlying3 (zeroBo w) t
theorem CoV.look2 (H : Hs w0 w (CoV p v s :: R)) (t : Int) : (Instr.lookup 48 (.map (some v.m2)) (.int .i64 t) false).run Try.prog w = .ok (.bool (s.acked t)) w :=
  (CoV.open_ H).at4.mf_look 48 3 4 Try.underlying48 Try.underlying3 (zeroBo w) t
theorem CoV.look3 (H : Hs w0 w (CoV p v s :: R)) (t : Int) : (Instr.lookup 49 (.map (some v.m3)) (.int .i64 t) false).run Try.prog w = .ok (.int .u64 (s.done t)) w :=
  (CoV.open_ H).at5.mf_look 49 3 29 Try.underlying49 Try.underlying3 (zeroU w) t
end
theorem infoI : (Try.prog.info? 3).map (fun i => (i.zero, i.size, i.bytes)) = some (some (.int .i64 0), 1, 8) := by kernel_rfl
theorem infoC : (Try.prog.info? 32).map (fun i => (i.zero, i.size, i.bytes)) = some (some (.agg #[.int .i64 0, .int .u64 0, .int .u64 0, .int .i64 0]), 4, 32) := by kernel_rfl
/-! ### what the coordinator does -/
def Co.tell (s : Co) (kind n : Int) (l : List Int) (but : Int → Bool) : List Ctl := (l.filter fun t => !but t).map fun t => (kind, s.epoch, n, t)
def Co.all (s : Co) (f : Int → Bool) : Bool := s.tasks.all f
def Co.committed (s : Co) (t : Int) : Bool := s.done t == s.durable
def Co.settled (s : Co) : Bool := s.epoch != 0 && s.all s.ready && s.under == 0 && (s.durable == 0 || s.sinks.all s.committed)
def nobody (_ : Int) : Bool := false
def Co.fresh (s : Co) (e fr lm : Int) : Co := ⟨s.tasks, s.sinks, s.interval, s.timeout, e, fr, lm, nobody, nobody, fun _ => 0, 0, fr, false, s.timeout, 0, 0, 0⟩
def Co.begin (s : Co) (e fr la : Int) : Co × List Ctl := if e ≤ s.epoch then (s, []) else (s.fresh e fr (max s.last la), (s.fresh e fr (max s.last la)).tell 5 fr s.tasks nobody)
def Co.late (s : Co) : Bool := s.under != 0 && !s.stored && decide (s.limit ≤ s.ticks - s.began)
def Co.up (s : Co) : Co := { s with ticks := s.ticks + 1 }
def Co.quit (s : Co) : Co := { s with under := 0, limit := min (2 * s.limit) 1048576 }
def Co.due (s : Co) : Bool := s.under == 0 && decide (s.interval ≤ s.ticks - s.since)
def Co.start (s : Co) : Co := { s with last := s.last + 1, under := s.last + 1, began := s.ticks, since := s.ticks, acked := nobody }
def Co.outs (s : Co) : List Ctl := if s.durable = 0 then [] else s.tell 3 s.durable s.sinks s.committed
def Co.mid (s : Co) : Co := if s.up.late then s.up.quit else s.up
def Co.go (s : Co) (out : List Ctl) : Co × List Ctl := if s.due then (s.start, out ++ s.start.tell 1 s.start.under s.tasks nobody) else if s.under != 0 && !s.stored then (s, out ++ s.tell 1 s.under s.tasks s.acked) else (s, out)
def Co.tick (s : Co) : Co × List Ctl := if s.epoch = 0 then (s, []) else if s.all s.ready = false then (s, s.tell 5 s.from_ s.tasks s.ready) else s.mid.go s.outs
def Co.readied (s : Co) (t : Int) : Co := if s.all (updf s.ready t true) then { s with ready := updf s.ready t true, since := s.ticks } else { s with ready := updf s.ready t true }
def Co.ack (s : Co) (t : Int) : Co × Int := if s.all (updf s.acked t true) then ({ s with acked := updf s.acked t true, stored := true }, s.under) else ({ s with acked := updf s.acked t true }, 0)
def Co.take (s : Co) (m : Ctl) : Co × Int :=
  if m.2.1 ≠ s.epoch ∨ s.epoch = 0 ∨ s.tasks.contains m.2.2.2 = false then (s, 0)
  else if m.1 = 6 ∧ m.2.2.1 = s.from_ ∧ s.ready m.2.2.2 = false then (s.readied m.2.2.2, 0)
  else if m.1 = 2 ∧ s.under ≠ 0 ∧ m.2.2.1 = s.under ∧ s.stored = false then s.ack m.2.2.2
  else if m.1 = 4 ∧ s.sinks.contains m.2.2.2 = true ∧ m.2.2.1 = s.durable then ({ s with done := updf s.done m.2.2.2 m.2.2.1 }, 0)
  else (s, 0)
def Co.put (s : Co) (n : Int) : Co := { s with under := 0, stored := false, durable := n, limit := s.timeout, done := fun _ => 0 }
def Co.store (s : Co) (n : Int) (ok : Bool) : Co × List Ctl :=
  if s.stored = false ∨ n ≠ s.under then (s, []) else if ok then (s.put n, (s.put n).tell 3 n s.sinks nobody) else ({ s with under := 0, stored := false }, [])
def clampC (n : Int) : Int := min (max n 1) 1000
def uniq : List Int → List Int → List Int
  | l, [] => l
  | l, x :: r => uniq (if l.contains x then l else l ++ [x]) r
def uniqIn (t : List Int) : List Int → List Int → List Int
  | l, [] => l
  | l, x :: r => uniqIn t (if t.contains x && !l.contains x then l ++ [x] else l) r
def Co.new (ts ss : List Int) (i t : Int) : Co := ⟨uniq [] ts, uniqIn (uniq [] ts) [] ss, clampC i, clampC t, 0, 0, 0, nobody, nobody, fun _ => 0, 0, 0, false, clampC t, 0, 0, 0⟩
end Go.Proofs.Ythjinahfhpgpmaa

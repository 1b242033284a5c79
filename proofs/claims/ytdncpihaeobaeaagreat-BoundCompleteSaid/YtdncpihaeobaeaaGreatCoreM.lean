/- The core as a model: sinks, pots, releases, what tenants are told, acts, answers. -/
import Derived.Test.YtdncpihaeobaeaaGreatPool
set_option linter.unusedVariables false
namespace Go.Proofs.YtdncpihaeobaeaaGreat
open Go.RowKit
/-- A sink: who gives, who is told, how many at least, which aggregate, how many ticks. -/
structure Sk where
  fr : Int
  dst : Int
  least : Int
  agg : Int
  ticks : Int
def Sk.cells (s : Sk) : List Value := [.int .u64 s.fr, .int .u64 s.dst, .int .i64 s.least, .int .i64 s.agg, .int .i64 s.ticks]
def Sk.zero : Sk := ⟨0, 0, 0, 0, 0⟩
theorem Sk.len (s : Sk) : s.cells.length = 5 := rfl
theorem Sk.one (s : Sk) : ∀ u ∈ s.cells, u.oneCell' = true := by intro u hu; simp [Sk.cells] at hu; rcases hu with rfl | rfl | rfl | rfl | rfl <;> rfl
structure Rel where
  sink : Int
  epoch : Int
  value : Int
  hidden : Bool
def Rel.cells (r : Rel) : List Value := [.int .i64 r.sink, .int .i64 r.epoch, .int .i64 r.value, .bool r.hidden]
theorem Rel.len (s : Rel) : s.cells.length = 4 := rfl
theorem Rel.one (s : Rel) : ∀ u ∈ s.cells, u.oneCell' = true := by intro u hu; simp [Rel.cells] at hu; rcases hu with rfl | rfl | rfl | rfl <;> rfl
structure Pot where
  count : Int
  kind : Int
  value : Int
  who : Int
def Pot.cells (p : Pot) : List Value := [.int .i64 p.count, .int .i64 p.kind, .int .i64 p.value, .int .u64 p.who]
def Pot.zero : Pot := ⟨0, 0, 0, 0⟩
theorem Pot.len (s : Pot) : s.cells.length = 4 := rfl
theorem Pot.one (s : Pot) : ∀ u ∈ s.cells, u.oneCell' = true := by intro u hu; simp [Pot.cells] at hu; rcases hu with rfl | rfl | rfl | rfl <;> rfl
structure Su where
  budget : Int
  room : Int
  quota : Int
  sinks : List Sk
/-- An act as it is asked for. -/
structure ActM where
  kind : Int
  tenant : Int
  fr : Int
  n : Int
  p : Pp
  i : Inp
structure Ans where
  err : Int
  rows : List Rw
  told : List Rel
structure Co where
  s : Su
  cells : List (Option Cl)
  pots : List Pot
  told : List (List Rel)
  ticks : Nat
def bitOf (id : Int) : Int := if 0 ≤ id ∧ id < 64 then IntKind.u64.wrap (2 ^ id.toNat) else 0
def hasB (m id : Int) : Bool := !(bits .and .u64 m (bitOf id) == 0)
def belowB (a b : Int) : Bool := bits .andNot .u64 a b == 0
def rightSk (s : Sk) : Bool := !(s.fr == 0) && belowB (bits .or .u64 (bits .or .u64 0 s.fr) s.dst) 255 && decide (2 ≤ s.least) && decide (s.least ≤ 8) && rightK s.agg && decide (1 ≤ s.ticks) && decide (s.ticks ≤ 100)
def rightSks (l : List Sk) : Bool := l.all rightSk && decide (l.length ≤ 4)
def rightSu (s : Su) : Bool := decide (1 ≤ s.budget) && decide (s.budget ≤ 8) && decide (1 ≤ s.room) && decide (s.room ≤ 16) && decide (0 ≤ s.quota) && decide (s.quota ≤ 4000) && rightSks s.sinks
def inB (id pl : Int) (l : List Sk) (f : Sk → Int) : Bool := if pl = -1 then true else decide (0 ≤ pl) && decide (pl < l.length) && hasB (f (l.getD pl.toNat Sk.zero)) id
def mayB (id : Int) (p : Pp) (l : List Sk) : Bool := decide (0 ≤ id) && decide (id < 8) && rightPp p && inB id p.sink l Sk.fr && inB id p.feed l Sk.dst
def newPot (s : Sk) : Pot := ⟨0, s.agg, 0, 0⟩
/-- A row given to a pot. -/
def give1 (s : Sk) (t : Int) (p : Pot) (r : Rw) : Pot :=
  if hasB s.fr t && belowB r.label s.fr then ⟨wrap64 (p.count + 1), p.kind, takeV p.kind p.count p.value r.value 1, bits .or .u64 (bits .or .u64 0 p.who) (bits .or .u64 0 (bitOf t))⟩ else p
def giveP (s : Sk) (t : Int) (p : Pot) (l : List Rw) : Pot := l.foldl (give1 s t) p
def pop1 (x : Int) : Int := IntKind.u64.wrap (bits .and .u64 (x / 2) 6148914691236517205 + bits .and .u64 x 6148914691236517205)
def pop2 (x : Int) : Int := IntKind.u64.wrap (bits .and .u64 (x / 4) 3689348814741910323 + bits .and .u64 x 3689348814741910323)
def pop3 (x : Int) : Int := bits .and .u64 (IntKind.u64.wrap (x / 16 + x)) 1085102592571150095
def pop4 (x : Int) : Int := IntKind.u64.wrap (x + x / 256)
def pop5 (x : Int) : Int := IntKind.u64.wrap (x + x / 65536)
def pop6 (x : Int) : Int := IntKind.u64.wrap (x + x / 4294967296)
/-- How many bits are set: as the library reckons it. -/
def popc (x : Int) : Int := bits .and .i64 (wrap64 (pop6 (pop5 (pop4 (pop3 (pop2 (pop1 x))))))) 127
def tellP (p : Pot) (s : Sk) (id epoch : Int) : Rel := if popc p.who < s.least then ⟨id, epoch, 0, true⟩ else ⟨id, epoch, p.value, false⟩
def epochB (s : Sk) (tick : Int) : Bool := decide (1 ≤ tick) && decide (1 ≤ s.ticks) && (tick % s.ticks == 0)
def Co.at (co : Co) (t : Int) : Option Cl := if 0 ≤ t ∧ t ≤ 7 then co.cells.getD t.toNat none else none
def Co.reg (co : Co) (t : Int) (p : Pp) : Int × Co :=
  if ¬ (0 ≤ t ∧ t ≤ 7) then (2, co) else if (co.at t).isSome then (6, co) else if mayB t p co.s.sinks = false then (1, co) else (0, { co with cells := co.cells.set t.toNat (some (newC co.s.quota t p)) })
def Co.servN (co : Co) (c : Cl) : Nat := (max 0 (min co.s.budget c.q.length)).toNat
/-- One tenant's turn: it is served; its rows go to its sink. -/
def Co.turn (co : Co) (j : Nat) : Co :=
  match co.cells.getD j none with
  | none => co
  | some c => { co with
      cells := co.cells.set j (some (c.serve (co.servN c)))
      pots := if c.p.sink = -1 then co.pots else co.pots.set c.p.sink.toNat (giveP (co.s.sinks.getD c.p.sink.toNat Sk.zero) j (co.pots.getD c.p.sink.toNat Pot.zero) (rowsR c.rn (c.q.take (co.servN c)))) }
def Co.serveK (co : Co) (k : Nat) : Co := (List.range k).foldl (fun c i => c.turn ((co.ticks + i) % 8)) co
def feedCl (s : Sk) (r : Rel) (t : Nat) (c : Cl) : Cl := if hasB s.dst t && (c.p.feed == r.sink) then c.feed ⟨c.rn.c.mark, r.sink, r.value, s.fr⟩ else c
def Co.feed (co : Co) (r : Rel) : Co := { co with cells := co.cells.mapIdx fun t x => x.map (feedCl (co.s.sinks.getD r.sink.toNat Sk.zero) r t) }
def pinT (dst : Int) (r : Rel) (told : List (List Rel)) : List (List Rel) := told.mapIdx fun t l => if hasB dst t then l ++ [r] else l
/-- A sink at the end of a tick. -/
def Co.sinkStep (co : Co) (i : Nat) : Co :=
  let s := co.s.sinks.getD i Sk.zero
  if epochB s co.ticks then
    let r := tellP (co.pots.getD i Pot.zero) s i ((co.ticks : Int) / s.ticks - 1)
    let c1 : Co := { co with pots := co.pots.set i (newPot s), told := pinT s.dst r co.told }
    if r.hidden then c1 else c1.feed r
  else co
def Co.sinksK (co : Co) (k : Nat) : Co := (List.range k).foldl Co.sinkStep co
def Co.late (co : Co) : Co := { co with ticks := co.ticks + 1 }
def Co.tick (co : Co) : Co := (co.serveK 8).late.sinksK co.s.sinks.length
def tellT (R : List Rel) (f n : Int) : List Rel × Int := if f < 0 ∨ (R.length : Int) < f then ([], 5) else ((R.drop f.toNat).take (max 0 (min (min n 32) (R.length - f))).toNat, 0)
def Co.toldB (co : Co) (t f n : Int) : List Rel × Int := if 0 ≤ t ∧ t < 8 then tellT (co.told.getD t.toNat []) f n else ([], 2)
def Co.do1 (co : Co) (a : ActM) : Ans × Co :=
  if a.kind = 1 then (⟨(co.reg a.tenant a.p).1, [], []⟩, (co.reg a.tenant a.p).2)
  else if a.kind = 3 then (⟨0, [], []⟩, co.tick)
  else if a.kind = 5 then (⟨(co.toldB a.tenant a.fr a.n).2, [], (co.toldB a.tenant a.fr a.n).1⟩, co)
  else if a.kind ≠ 2 ∧ a.kind ≠ 4 then (⟨1, [], []⟩, co)
  else match co.at a.tenant with
    | none => (⟨2, [], []⟩, co)
    | some c => if a.kind = 2 then (⟨(c.offer co.s.room a.i).1, [], []⟩, { co with cells := co.cells.set a.tenant.toNat (some (c.offer co.s.room a.i).2) })
      else (⟨(tellR c.rows a.fr a.n).2, (tellR c.rows a.fr a.n).1, []⟩, co)
def Co.doAll (co : Co) : List ActM → List Ans × Co
  | [] => ([], co)
  | a :: l => ((co.do1 a).1 :: ((co.do1 a).2.doAll l).1, ((co.do1 a).2.doAll l).2)
def newCo (s : Su) : Co := ⟨s, List.replicate 8 none, s.sinks.map newPot, List.replicate 8 [], 0⟩
def Co.after (co : Co) (l : List ActM) : Co := (co.doAll l).2
def Co.ans (co : Co) (l : List ActM) : List Ans := (co.doAll l).1
end Go.Proofs.YtdncpihaeobaeaaGreat

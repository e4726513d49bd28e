/-
  Parts of the proof of runnerSkips_holds: Ground, Model, Own, Pack, Obj, Mem, MemA, MemB.
-/
import Derived.Test.YtgdoeoackhfikaaGreatDoorProg
import Derived.Lib.LaidTab
import Derived.Lib.ItoaNum
import Derived.Lib.ItoaWalk
import Derived.Lib.ItoaMem
import Derived.Below
import Derived.RowKit
import Derived.Lib.OthersKept
import Derived.WalkKit
import Derived.BigCall
import Derived.Lib.Hide
import Derived.Handy
import Derived.Stop.Asserts
import Derived.Laws.Bits64b
import Derived.Deep.RegionHeld3
import Derived.Deep.AppendLies
import Derived.WalkSpells
import Derived.Deep.Draws
import Derived.Test.YtgdoeoackhfikaaGreatDoorQA1
import Derived.Deep.RegionLaw
import Derived.Deep.DrawnRows
namespace Go.Proofs.YtgdoeoackhfikaaGreatDoor
open Go.RowKit
theorem isEmpty_bne (l : List UInt8) : Value.bool (!l.isEmpty) = Value.bool (l != []) := by cases l <;> rfl
structure GG (w : World) : Prop where
 tab : Lib.TabIs Tryz.prog w "internal/strconv.uint64pow10" .u64 Lib.pow10Tab
 syn : ∃ ev, w.cell? ⟨0, 0, none⟩ = some ev ∧ (ev = .nilIface ∨ ∃ te pe, ev = .iface te pe)
 ran : ∃ ev, w.cell? ⟨1, 0, none⟩ = some ev ∧ (ev = .nilIface ∨ ∃ te pe, ev = .iface te pe)
 maxLen : ∃ m : Int, w.cell? ⟨3, 0, none⟩ = some (.int .i64 m)
theorem tabIs_same {P : Program} {w w1 : World} {name : String} {k : IntKind} {zs : List Int} (h : Lib.TabIs P w name k zs) (hb : ∀ i, i < w.heap.size → w1.heap[i]? = w.heap[i]?) : Lib.TabIs P w1 name k zs := by
 unfold Lib.TabIs World.var? at *
 cases hg : P.globalNamed name with
 | none => simp [hg] at h
 | some g =>
  simp only [hg, Option.bind_some] at h ⊢
  have hlt : g < w.heap.size := by
   rcases Nat.lt_or_ge g w.heap.size with h' | h'
   ·exact h'
   ·rw [Array.getElem?_eq_none h'] at h; simp at h
  rw [hb g hlt]
  exact h
theorem cell_lt {w : World} {a : Addr} {v : Value} (h : w.cell? a = some v) : a.block < w.heap.size := World.block_lt_of_cell? w a h
theorem GG_same {w w1 : World} (h : GG w) (hb : ∀ i, i < w.heap.size → w1.heap[i]? = w.heap[i]?) : GG w1 := by
 have hc : ∀ (a : Addr) v, w.cell? a = some v → w1.cell? a = some v := fun a v hv => (World.cell?_of_block (w := w) (hb a.block (cell_lt hv))).trans hv
 refine ⟨tabIs_same h.tab hb, ?_, ?_, ?_⟩
 ·obtain ⟨ev, h1, h2⟩ := h.syn
  exact ⟨ev, hc _ _ h1, h2⟩
 ·obtain ⟨ev, h1, h2⟩ := h.ran
  exact ⟨ev, hc _ _ h1, h2⟩
 ·obtain ⟨m, h1⟩ := h.maxLen
  exact ⟨m, hc _ _ h1⟩
theorem GG_at {w w1 : World} (h : GG w) (hb : Below w.heap.size w w1) : GG w1 := GG_same h hb.block
end Go.Proofs.YtgdoeoackhfikaaGreatDoor

namespace Go.Proofs.YtgdoeoackhfikaaGreatDoor
open Go.RowKit

def idxOf (z : Int) : Int := z % 4294967296
def tagOf (z : Int) : Int := z / 4294967296
def wordOf (i t : Int) : Int := i + t * 4294967296
def nextTag (z : Int) : Int := (tagOf z + 1) % 4294967296
def nextW (w i : Int) : Int := wordOf i (nextTag w)

structure LCfg where
 nodes : Int
 slots : Int
 holders : Int
 tag : Int
def LCfg.right (c : LCfg) : Prop := 1 ≤ c.nodes ∧ c.nodes ≤ 64 ∧ 0 ≤ c.slots ∧ c.slots ≤ 16 ∧ 0 ≤ c.holders ∧ c.holders ≤ 64
instance (c : LCfg) : Decidable c.right := by unfold LCfg.right; infer_instance
def LCfg.nextAt (c : LCfg) (i : Int) : Int := if 1 ≤ i ∧ i ≤ c.nodes then 2 * i else -1
def LCfg.valueAt (c : LCfg) (i : Int) : Int := if 1 ≤ i ∧ i ≤ c.nodes then 2 * i + 1 else -1
def LCfg.slotAt (c : LCfg) (k : Int) : Int := if 0 ≤ k ∧ k < c.slots then 2 + 2 * c.nodes + k else -1
def LCfg.cells (c : LCfg) : Int := 2 + 2 * c.nodes + c.slots + c.holders

structure Acc where
 kind : Int
 at_ : Int
 old : Int
 new : Int
 ok : Bool
structure MemS where
 words : List Int
 notes : List Acc
def MemS.has (m : MemS) (a : Int) : Prop := 0 ≤ a ∧ a < m.words.length
instance (m : MemS) (a : Int) : Decidable (m.has a) := by unfold MemS.has; infer_instance
def MemS.get (m : MemS) (a : Int) : Int := m.words.getD a.toNat 0
def MemS.note (m : MemS) (x : Acc) : MemS := ⟨m.words.set x.at_.toNat x.new, m.notes ++ [x]⟩
def MemS.load (m : MemS) (a : Int) : MemS := m.note ⟨108, a, m.get a, m.get a, true⟩
def MemS.store (m : MemS) (a w : Int) : MemS := m.note ⟨115, a, m.get a, w, true⟩
def MemS.swap (m : MemS) (a old new : Int) : MemS := if m.get a = old then m.note ⟨99, a, m.get a, new, true⟩ else m.note ⟨99, a, m.get a, m.get a, false⟩

structure SrcS where
 now : Int
 draws : List Int
def later (now n : Int) : Int := now + min n (18446744073709551615 - now)
def SrcS.tick (s : SrcS) (n : Int) : SrcS := { s with now := later s.now n }
def SrcS.drawn (s : SrcS) (n : Int) : Int := if n < 1 ∨ s.draws = [] then 0 else s.draws.headD 0 % n
def SrcS.rest (s : SrcS) (n : Int) : SrcS := if n < 1 ∨ s.draws = [] then s else { s with draws := s.draws.tail }

inductive TN where
 | th | ts | tw (n : Int) | gh | gs | gw
structure TL where
 c : LCfg
 at_ : Int
 i : Int
 w : Int
 nx : TN
 st : Int
def newTake (c : LCfg) (at_ : Int) : TL := ⟨c, at_, 0, 0, .th, 0⟩
def newGive (c : LCfg) (at_ i : Int) : TL := ⟨c, at_, i, 0, .gh, 0⟩
def TL.swp (x : TL) (m : MemS) (first : Int) : MemS × Int :=
 if m.has x.at_ then (m.swap x.at_ x.w (nextW x.w first), if m.get x.at_ = x.w then 1 else 3) else (m, 5)
def TL.next (x : TL) (m : MemS) : TL × MemS × Int :=
 match x.nx with
 | .th =>
  if m.has x.at_ then
   let y : TL := { x with w := m.get x.at_, i := idxOf (m.get x.at_) }
   if y.i = 0 then (y, m.load x.at_, 2) else if y.c.nextAt y.i < 0 then (y, m.load x.at_, 5) else ({ y with nx := .ts }, m.load x.at_, 0)
  else ({ x with w := 0, i := 0 }, m, 5)
 | .ts => if m.has (x.c.nextAt x.i) then ({ x with nx := .tw (m.get (x.c.nextAt x.i)) }, m.load (x.c.nextAt x.i), 0) else (x, m, 5)
 | .tw n => (x, x.swp m (idxOf n))
 | .gh => if x.c.nextAt x.i < 0 then (x, m, 5) else if m.has x.at_ then ({ x with w := m.get x.at_, nx := .gs }, m.load x.at_, 0) else (x, m, 5)
 | .gs => if m.has (x.c.nextAt x.i) then ({ x with nx := .gw }, m.store (x.c.nextAt x.i) (idxOf x.w), 0) else (x, m, 5)
 | .gw => (x, x.swp m x.i)
def TL.told (x : TL) : Int := if x.st = 1 then x.i else 0
def TL.step (x : TL) (m : MemS) : TL × MemS :=
 if x.st = 0 then ({ (x.next m).1 with st := (x.next m).2.2 }, (x.next m).2.1) else (x, m)

structure TR where
 left : Int
 shelf : List Int
 fresh : TL
 now : Option TL
 st : Int
 i : Int
def TR.goOn (t : TR) (m : MemS) : TR × MemS :=
 if t.st ≠ 0 then (t, m)
 else
  let r := (t.now.getD t.fresh).step m
  if r.1.st = 3 then ({ t with now := none, st := if t.left = 0 then 6 else 0, i := r.1.told, left := wrap64 (t.left - 1) }, r.2)
  else ({ t with now := some r.1, st := r.1.st, i := r.1.told }, r.2)
def TR.takeStep (t : TR) (m : MemS) : TR × MemS :=
 if t.shelf ≠ [] ∧ t.st = 0 then ({ t with shelf := t.shelf.dropLast, st := 1, i := t.shelf.getLastD 0 }, m) else t.goOn m
def TR.giveStep (t : TR) (node : Int) (m : MemS) : TR × MemS :=
 if (t.goOn m).1.st = 6 then ({ (t.goOn m).1 with shelf := (t.goOn m).1.shelf ++ [node], st := 1, i := node }, (t.goOn m).2) else t.goOn m
def newTries (budget : Int) (shelf : List Int) (fresh : TL) : TR := ⟨max budget 0, shelf, fresh, none, 0, 0⟩

def stateOf (w : Int) : Int := w % 4
def sIdxOf (w : Int) : Int := w / 4 % 1073741824
def stampOf (w : Int) : Int := w / 4294967296
def slotW (s i stamp : Int) : Int := s % 4 + i % 1073741824 * 4 + stamp * 4294967296
def waitsOf (push : Bool) : Int := if push then 1 else 2
def meets (w : Int) (push : Bool) : Bool := decide (stateOf w = waitsOf (!push))
def offerW (w : Int) (push : Bool) (i : Int) : Int := if stateOf w ≠ 0 then 0 else slotW (waitsOf push) (if push then i else 0) (stampOf w)
def claimW (w : Int) (push : Bool) (i : Int) : Int := if meets w push then slotW 3 (if push then i else sIdxOf w) (stampOf w) else 0
def clearW (w : Int) : Int := slotW 0 0 ((stampOf w + 1) % 4294967296)

inductive EN where
 | first | claim | offer | look | withdraw | found (w : Int)
structure EV where
 at_ : Int
 push : Bool
 i : Int
 dl : Int
 looks : Int
 w : Int
 nx : EN
 st : Int
 offered : Bool
def newVisit (at_ : Int) (push : Bool) (i dl polls : Int) : EV := ⟨at_, push, i, dl, max polls 1, 0, .first, 0, false⟩
def EV.swp (v : EV) (m : MemS) (w yes no : Int) : MemS × Int :=
 if m.has v.at_ then (m.swap v.at_ v.w w, if m.get v.at_ = v.w then yes else no) else (m, 5)
def EV.next (v : EV) (m : MemS) (now : Int) : EV × MemS × Int :=
 match v.nx with
 | .first =>
  if m.has v.at_ then
   let w := m.get v.at_
   if meets w v.push then ({ v with w := w, nx := .claim }, m.load v.at_, 0)
   else if stateOf w = 0 then ({ v with w := w, nx := .offer }, m.load v.at_, 0)
   else ({ v with w := w }, m.load v.at_, 3)
  else (v, m, 5)
 | .claim =>
  let w := claimW v.w v.push v.i
  let r := v.swp m w 1 3
  (if r.2 = 1 then { v with i := sIdxOf w } else v, r)
 | .offer =>
  let w := offerW v.w v.push v.i
  let r := v.swp m w 0 3
  (if r.2 = 0 then { v with w := w, offered := true, nx := .look } else v, r)
 | .look =>
  if m.has v.at_ then
   let w := m.get v.at_
   if w ≠ v.w then
    if stateOf w ≠ 3 ∨ stampOf w ≠ stampOf v.w then (v, m.load v.at_, 5)
    else ({ v with i := sIdxOf w, nx := .found w }, m.load v.at_, 0)
   else
    let n := wrap64 (v.looks - 1)
    if n ≤ 0 ∨ v.dl ≤ now then ({ v with looks := n, nx := .withdraw }, m.load v.at_, 0) else ({ v with looks := n }, m.load v.at_, 0)
  else (v, m, 5)
 | .found w => if m.has v.at_ then (v, m.store v.at_ (clearW w), 1) else (v, m, 5)
 | .withdraw => ({ v with nx := .look }, v.swp m (clearW v.w) 4 0)
def EV.step (v : EV) (m : MemS) (now : Int) : EV × MemS :=
 if v.st = 0 then ({ (v.next m now).1 with st := (v.next m now).2.2 }, (v.next m now).2.1) else (v, m)
def EV.told (v : EV) : Int := if v.st = 1 ∧ v.push = false then v.i else 0
def EV.met (v : EV) (words : List Int) : Bool :=
 if v.st ≠ 0 ∨ v.offered = false then decide (v.st = 1) else decide (v.at_ < words.length) && decide (words.getD v.at_.toNat 0 ≠ v.w)

structure Pol where
 range : Int
 exp : Int
deriving DecidableEq
def Pol.within (s : Pol) (slots : Int) : Pol := ⟨max (min s.range slots) (min slots 1), max (min s.exp 6) 0⟩
def Pol.new (slots : Int) : Pol := Pol.within ⟨1, 0⟩ slots
def Pol.right (s : Pol) (slots : Int) : Prop := 0 ≤ slots ∧ slots ≤ 16 ∧ s = s.within slots
instance (s : Pol) (slots : Int) : Decidable (s.right slots) := by unfold Pol.right; infer_instance
def Pol.after (s : Pol) (slots status : Int) : Pol :=
 if status = 3 then Pol.within ⟨s.range * 2, s.exp⟩ slots
 else if status = 4 then Pol.within ⟨Int.tdiv s.range 2, s.exp + 1⟩ slots
 else if status = 1 then Pol.within ⟨s.range, 0⟩ slots
 else s.within slots
def pollsGo : Nat → Int → Int
 | 0, n => n
 | k + 1, n => if n < 64 then pollsGo k (n * 2) else n
def Pol.polls (s : Pol) (base : Int) : Int := min (pollsGo s.exp.toNat (max base 1)) 64

structure ElV where
 v : Option EV
 c : LCfg
 s : Pol
 place : Int
 ended : Int
 push : Bool
 i : Int
 base : Int
 wait : Int
def newElim (c : LCfg) (s : Pol) (push : Bool) (i base wait : Int) : ElV := ⟨none, c, s, -1, 0, push, i, base, wait⟩
def ElV.begun (v : ElV) (r : SrcS) : EV := newVisit (v.c.slotAt (r.drawn v.s.range)) v.push v.i (later r.now v.wait) (v.s.polls v.base)
def ElV.on (v : ElV) (x : EV) (m : MemS) (now : Int) : ElV × MemS :=
 let r := x.step m now
 (if v.ended = 0 ∧ r.1.st ≠ 0 then { v with v := some r.1, ended := r.1.st, s := v.s.after v.c.slots r.1.st } else { v with v := some r.1 }, r.2)
def ElV.step (v : ElV) (m : MemS) (r : SrcS) : ElV × MemS × SrcS × Int × Int :=
 if v.ended = 2 then (v, m, r, 2, 0)
 else match v.v with
  | some x => let o := v.on x m r.now; (o.1, o.2, r, (x.step m r.now).1.st, (x.step m r.now).1.told)
  | none =>
   if v.c.slots = 0 ∨ ¬ v.s.right v.c.slots then ({ v with ended := 2 }, m, r, 2, 0)
   else
    let x := v.begun r
    let o := ElV.on { v with place := x.at_ } x m r.now
    (o.1, o.2, r.rest v.s.range, (x.step m r.now).1.st, (x.step m r.now).1.told)
def ElV.met (v : ElV) (words : List Int) : Bool := match v.v with | some x => x.met words | none => false

structure ECfg where
 l : LCfg
 budget : Int
 base : Int
 wait : Int
def ECfg.right (c : ECfg) : Prop := c.l.right ∧ 0 ≤ c.budget ∧ c.budget ≤ 16 ∧ 1 ≤ c.base ∧ c.base ≤ 64
instance (c : ECfg) : Decidable c.right := by unfold ECfg.right; infer_instance
inductive Part where
 | at (t : TR)
 | ag (t : TR) (node : Int)
 | tt (x : TL)
 | tg (x : TL)
 | vis (v : ElV)
 | acc (a : Int) (write : Bool)
structure OpS where
 c : ECfg
 shelf : List Int
 pol : Pol
 push : Bool
 v : Int
 i : Int
 failed : Int
 part : Part
 st : Int
 retry : Bool
def OpS.core (o : OpS) : OpS := { o with part := if o.push then .tg (newGive o.c.l 0 o.i) else .tt (newTake o.c.l 0) }
def OpS.back (o : OpS) : OpS := { o with part := .ag (newTries o.c.budget o.shelf (newGive o.c.l 1 o.i)) o.i }
def OpS.has (o : OpS) (i : Int) : OpS := { o with i := i, part := .acc (o.c.l.valueAt i) false }
def OpS.contended (o : OpS) : OpS × Int :=
 let o1 := { o with failed := wrap64 (o.failed + 1) }
 if o1.failed > o.c.budget ∧ o.push = true then ({ o1 with retry := true }.back, 0)
 else if o1.failed > o.c.budget then (o1, 6)
 else if o.c.l.slots = 0 then (o1.core, 0)
 else ({ o1 with part := .vis (newElim o.c.l o.pol o.push o.i o.c.base o.c.wait) }, 0)
def OpS.tried (o : OpS) (s i : Int) : OpS × Int :=
 if s = 3 then o.contended else if s ≠ 1 then (o, s) else if o.push then ({ o with i := 0 }, 1) else (o.has i, 0)
def OpS.visited (o : OpS) (s i : Int) : OpS × Int :=
 if s = 0 ∨ s = 5 then (o, s) else if s ≠ 1 then (o.core, 0) else if o.push then ({ o with i := 0 }, 1) else (o.has i, 0)
def OpS.next (o : OpS) (m : MemS) (r : SrcS) : OpS × MemS × SrcS × Int :=
 match o.part with
 | .at t =>
  let x := t.takeStep m
  let o1 := { o with shelf := x.1.shelf, part := .at x.1 }
  if x.1.st ≠ 1 then (o1, x.2, r, x.1.st) else ({ o1 with i := x.1.i, part := .acc (o.c.l.valueAt x.1.i) true }, x.2, r, 0)
 | .ag t node =>
  let x := t.giveStep node m
  let o1 := { o with shelf := x.1.shelf, part := .ag x.1 node }
  if x.1.st ≠ 1 then (o1, x.2, r, x.1.st) else ({ o1 with i := 0 }, x.2, r, if o.retry then 6 else 1)
 | .tt x => let y := x.step m; let z := OpS.tried { o with part := .tt y.1 } y.1.st y.1.told; (z.1, y.2, r, z.2)
 | .tg x => let y := x.step m; let z := OpS.tried { o with part := .tg y.1 } y.1.st y.1.told; (z.1, y.2, r, z.2)
 | .vis v => let y := v.step m r; let z := OpS.visited { o with part := .vis y.1, pol := y.1.s } y.2.2.2.1 y.2.2.2.2; (z.1, y.2.1, y.2.2.1, z.2)
 | .acc a true => if m.has a then (o.core, m.store a o.v, r, 0) else (o, m, r, 5)
 | .acc a false => if m.has a then ({ o with v := m.get a }.back, m.load a, r, 0) else (o, m, r, 5)
def OpS.told (o : OpS) : Int := if o.push = false ∧ o.st = 1 then o.v else 0
def OpS.step (o : OpS) (m : MemS) (r : SrcS) : OpS × MemS × SrcS :=
 if o.st = 0 then ({ (o.next m r).1 with st := (o.next m r).2.2.2 }, (o.next m r).2.1, (o.next m r).2.2.1) else (o, m, r)
def OpS.held (o : OpS) (words : List Int) : List Int :=
 let i := match o.part with
  | .vis v => if o.st = 0 ∧ v.met words = true then (if o.push then 0 else sIdxOf (words.getD v.place.toNat 0)) else o.i
  | _ => o.i
 if i = 0 then [] else [i]
def newPush (c : ECfg) (shelf : List Int) (pol : Pol) (v : Int) : OpS :=
 ⟨c, shelf, pol, true, v, 0, 0, .at (newTries c.budget shelf (newTake c.l 1)), if pol.right c.l.slots then 0 else 5, false⟩
def newPop (c : ECfg) (shelf : List Int) (pol : Pol) : OpS :=
 ⟨c, shelf, pol, false, 0, 0, 0, .tt (newTake c.l 0), if pol.right c.l.slots then 0 else 5, false⟩

structure Ev where
 t : Int
 ret : Bool
 push : Bool
 v : Int
 st : Int
structure Th where
 shelf : List Int
 pol : Pol
 op : Option OpS
 push : Bool
structure Run where
 c : ECfg
 mem : MemS
 src : SrcS
 picks : Int
 ths : List Th
 evs : List Ev
def numbersOf (op : Int) : Int := if op = 8593 then 2 else if op = 8595 ∨ op = 8226 ∨ op = 8987 ∨ op = 9858 then 1 else -1
structure Ent where
 op : Int
 args : List Int
 ok : Bool
 at_ : Int
def Run.asked (r : Run) (t : Nat) (x : Th) (push : Bool) (v : Int) : Run × Int :=
 match x.op with
 | some _ => (r, 5)
 | none => ({ r with
   ths := r.ths.set t { x with op := some (if push then newPush r.c x.shelf x.pol v else newPop r.c x.shelf x.pol), push := push },
   evs := r.evs ++ [⟨t, false, push, v, 0⟩] }, 0)
def Run.picked (r : Run) (t : Nat) (x : Th) : Run × Int :=
 match x.op with
 | none => (r, 6)
 | some o =>
  let y := o.step r.mem r.src
  let r1 := { r with mem := y.2.1, src := y.2.2, picks := r.picks + 1 }
  if y.1.st = 0 then ({ r1 with ths := r.ths.set t { x with op := some y.1 } }, 0)
  else ({ r1 with
   ths := r.ths.set t { x with shelf := y.1.shelf, pol := y.1.pol, op := none },
   evs := r.evs ++ [⟨t, true, x.push, y.1.told, y.1.st⟩] }, 0)
def Run.do_ (r : Run) (e : Ent) : Run × Int :=
 if e.ok = false then (r, 3)
 else if numbersOf e.op < 0 then (r, 7)
 else if (e.args.length : Int) ≠ numbersOf e.op then (r, 1)
 else if e.op = 8987 then ({ r with src := r.src.tick (e.args.getD 0 0) }, 0)
 else if e.op = 9858 then (if e.args.getD 0 0 < 64 then ({ r with src := { r.src with draws := r.src.draws ++ [e.args.getD 0 0] } }, 0) else (r, 1))
 else match r.ths[(e.args.getD 0 0).toNat]? with
  | none => (r, 4)
  | some x => if e.op = 8226 then r.picked (e.args.getD 0 0).toNat x else r.asked (e.args.getD 0 0).toNat x (decide (e.op = 8593)) (e.args.getD 1 0)
def newRun (c : ECfg) (n : Nat) (words : List Int) : Run :=
 ⟨c, ⟨words, []⟩, ⟨0, []⟩, 0, List.replicate n ⟨[], Pol.new c.l.slots, none, false⟩, []⟩
end Go.Proofs.YtgdoeoackhfikaaGreatDoor

namespace Go.Proofs.YtgdoeoackhfikaaGreatDoor
open Go.RowKit
set_option maxRecDepth 100000
structure Kp (S : Nat → Prop) (w W : World) : Prop where
 os : W.os = w.os
 tape : W.tape = w.tape
 output : W.output = w.output
 size : w.heap.size ≤ W.heap.size
 block : ∀ k, k < w.heap.size → ¬ S k → W.heap[k]? = w.heap[k]?
namespace Kp
variable {S S2 S3 : Nat → Prop} {w W W2 W3 : World}
theorem refl (S : Nat → Prop) (w : World) : Kp S w w := ⟨rfl, rfl, rfl, Nat.le_refl _, fun _ _ _ => rfl⟩
theorem of_below (h : Below w.heap.size w W) (S : Nat → Prop) : Kp S w W := ⟨h.os, h.tape, h.output, h.size, fun k hk _ => h.block k hk⟩
theorem mono (h : Kp S w W) (hs : ∀ k, S k → S2 k) : Kp S2 w W := ⟨h.os, h.tape, h.output, h.size, fun k hk hn => h.block k hk fun h1 => hn (hs k h1)⟩
theorem comp (h : Kp S w W) (h2 : Kp S2 W W2) (hs : ∀ k, k < w.heap.size → S2 k → S k) : Kp S w W2 :=
 ⟨h2.os.trans h.os, h2.tape.trans h.tape, h2.output.trans h.output, Nat.le_trans h.size h2.size, fun k hk hn => (h2.block k (Nat.lt_of_lt_of_le hk h.size) fun h3 => hn (hs k hk h3)).trans (h.block k hk hn)⟩
theorem below (h : Kp S w W) (hs : ∀ k, k < w.heap.size → ¬ S k) : Below w.heap.size w W := ⟨h.os, h.tape, h.output, h.size, fun k hk => h.block k hk (hs k hk)⟩
theorem alloc (h : Kp S w W) (o : Obj) : Kp S w (W.alloc o) := h.comp (S2 := fun _ => False) (of_below ((Below.refl _ W).alloc (Nat.le_refl _) o) _) (fun _ _ h => h.elim)
theorem drew (h : Kp S w W) : Kp S w W.drew := ⟨h.os, h.tape, h.output, h.size, h.block⟩
theorem drewN (h : Kp S w W) (n : Nat) : Kp S w (W.drewN n) := ⟨h.os, h.tape, h.output, h.size, h.block⟩
theorem setCell (h : Kp S w W) {p : Addr} (hp : S p.block ∨ w.heap.size ≤ p.block) (u : Value) : Kp S w (W.setCell p u) :=
 h.comp (S2 := fun k => k = p.block) ⟨rfl, rfl, rfl, by simp [World.setCell], fun k _ hn => Below.heap_setCell W p u k hn⟩ (fun k hk e => by
  rcases hp with hp | hp
  ·rw [e]; exact hp
  ·omega)
theorem grown {row : Option Nat} (h : Kp S w W) (hg : W.grownBy W2 row) (hr : ∀ k, k < w.heap.size → row = some k → S k) : Kp S w W2 :=
 h.comp (S2 := fun k => row = some k) ⟨hg.os, hg.tape, hg.output, hg.size, fun k hk hn => hg.block k hk (fun e => hn e.symm)⟩ hr
theorem heap (h : Kp S w W) {b : Nat} {o : Obj} (hb : w.heap[b]? = some o) (hn : ¬ S b) : W.heap[b]? = some o :=
 (h.block b (Array.getElem?_eq_some_iff.1 hb).1 hn).trans hb
theorem cell (h : Kp S w W) {a : Addr} {v : Value} (hb : w.cell? a = some v) (hn : ¬ S a.block) : W.cell? a = some v :=
 (World.cell?_of_block (h.block a.block (World.block_lt_of_cell? w a hb) hn)).trans hb
theorem froz (h : Kp S w W) {b o : Nat} {f : Bool} (hb : b < w.heap.size) (hn : ¬ S b) (hf : w.frozen? ⟨b, o, none⟩ = f) : W.frozen? ⟨b, o, none⟩ = f := (World.frozen?_of_block (h.block b hb hn)).trans hf
theorem row {base n size : Nat} {e : TypeId} {v : Value} {xs : List Value} (h : Kp S w W) (hr : w.ownsRow base e size v n xs) (hn : ∀ k, v.ownBlock = some k → ¬ S k) : W.ownsRow base e size v n xs := by
 obtain ⟨h1, h2⟩ := hr
 refine ⟨h1, ?_⟩
 rcases h2 with h2 | ⟨g, cap, cur, hv, hg, hh, r⟩
 ·exact .inl h2
 ·exact .inr ⟨g, cap, cur, hv, hg, h.heap hh (hn g (by rw [hv]; rfl)), r⟩
end Kp
theorem lt_of_heap {w : World} {b : Nat} {o : Obj} (h : w.heap[b]? = some o) : b < w.heap.size := (Array.getElem?_eq_some_iff.1 h).1
theorem ne_of_type {w : World} {a b : Nat} {cs ds : Array Value} {t u : TypeId} {f f' : Nat × Nat} (h1 : w.heap[a]? = some (.cells cs t f)) (h2 : w.heap[b]? = some (.cells ds u f')) (h : t ≠ u) : a ≠ b := by
 intro e
 subst e
 rw [h1] at h2
 injection h2 with h2
 injection h2 with _ h3
 exact h h3
theorem ne_of_row {w : World} {a : Nat} {cs : Array Value} {t e : TypeId} {f : Nat × Nat} {base n size : Nat} {v : Value} {xs : List Value} (h1 : w.heap[a]? = some (.cells cs t f)) (hr : w.ownsRow base e size v n xs) (h : t ≠ e) : ∀ k, v.ownBlock = some k → k ≠ a := by
 intro k hk
 rcases hr.2 with ⟨hv, _⟩ | ⟨g, cap, cur, hv, _, hh, _⟩
 ·rw [hv] at hk; cases hk
 ·rw [hv] at hk
  injection hk with hk
  subst hk
  exact fun e1 => ne_of_type h1 hh h e1.symm

theorem hp_same (w : World) (b o : Nat) (v : Value) {cs : Array Value} {t : TypeId} {f : Nat × Nat} (h : w.heap[b]? = some (.cells cs t f)) : (w.setCell ⟨b, o, none⟩ v).heap[b]? = some (.cells (cs.setIfInBounds o v) t f) := by
 simp [World.setCell, Array.getElem?_modify, h]
theorem hp_other (w : World) (p : Addr) (v : Value) (b : Nat) (h : b ≠ p.block) : (w.setCell p v).heap[b]? = w.heap[b]? := Below.heap_setCell w p v b h
theorem hp_alloc (w : World) (o : Obj) (b : Nat) (h : b < w.heap.size) : (w.alloc o).heap[b]? = w.heap[b]? := Below.heap_alloc w o b h
theorem hp_new (w : World) (o : Obj) (b : Nat) (h : b = w.heap.size) : (w.alloc o).heap[b]? = some o := by subst h; exact heap_alloc_new w o
theorem hp_drew (w : World) (b : Nat) : w.drew.heap[b]? = w.heap[b]? := rfl
theorem Kp.st {S : Nat → Prop} {w W : World} (h : Kp S w W) {b : Nat} (hb : S b ∨ w.heap.size ≤ b) (o : Nat) (v : Value) : Kp S w (W.setCell ⟨b, o, none⟩ v) := Kp.setCell (p := ⟨b, o, none⟩) h hb v
theorem set5 {W : World} {b : Nat} {t : TypeId} {c0 c1 c2 c3 c4 v0 v1 v2 v3 v4 : Value} (h : W.heap[b]? = some (.cells #[c0, c1, c2, c3, c4] t (0, 0))) :
  (((((W.setCell ⟨b, 0, none⟩ v0).setCell ⟨b, 1, none⟩ v1).setCell ⟨b, 2, none⟩ v2).setCell ⟨b, 3, none⟩ v3).setCell ⟨b, 4, none⟩ v4).heap[b]? = some (.cells #[v0, v1, v2, v3, v4] t (0, 0)) := by
 have := hp_same _ b 4 v4 (hp_same _ b 3 v3 (hp_same _ b 2 v2 (hp_same _ b 1 v1 (hp_same _ b 0 v0 h))))
 simpa using this
theorem kp5 (W : World) (b : Nat) (v0 v1 v2 v3 v4 : Value) :
  Kp (fun k => k = b) W (((((W.setCell ⟨b, 0, none⟩ v0).setCell ⟨b, 1, none⟩ v1).setCell ⟨b, 2, none⟩ v2).setCell ⟨b, 3, none⟩ v3).setCell ⟨b, 4, none⟩ v4) := by
 have h : ∀ (W W' : World) (o : Nat) (v : Value), Kp (fun k => k = b) W W' → Kp (fun k => k = b) W (W'.setCell ⟨b, o, none⟩ v) := fun _ _ o v h => Kp.setCell (p := ⟨b, o, none⟩) h (Or.inl rfl) v
 exact h _ _ _ _ (h _ _ _ _ (h _ _ _ _ (h _ _ _ _ (h _ _ _ _ (Kp.refl _ _)))))
theorem any_world {p : World → Prop} {w : World} (h : ∀ W, W = w → p W) : p w := h w rfl
theorem wp_world {P : Program} {c : Code} {Q : Exit → Act → World → Prop} {a : Act} {w : World} (h : ∀ W, W = w → Code.wp P c Q a W) : Code.wp P c Q a w := h w rfl
theorem addr_add (g a : Nat) : (⟨g, 0, none⟩ : Addr).add a = ⟨g, a, none⟩ := by unfold Addr.add; split <;> simp_all

theorem row_step {w W : World} {base n size : Nat} {e : TypeId} {v : Value} {xs : List Value} (hr : w.ownsRow base e size v n xs) (h : ∀ k, v.ownBlock = some k → W.heap[k]? = w.heap[k]?) : W.ownsRow base e size v n xs := by
 obtain ⟨h1, h2⟩ := hr
 refine ⟨h1, ?_⟩
 rcases h2 with h2 | ⟨g, cap, cur, hv, hg, hh, r⟩
 ·exact .inl h2
 ·exact .inr ⟨g, cap, cur, hv, hg, (h g (by rw [hv]; rfl)).trans hh, r⟩
theorem row_alloc {w : World} {base n size : Nat} {e : TypeId} {v : Value} {xs : List Value} (hr : w.ownsRow base e size v n xs) (o : Obj) : (w.alloc o).ownsRow base e size v n xs :=
 row_step hr fun k hk => hp_alloc _ _ _ (hr.lt k hk).2
theorem row_setCell {w : World} {base n size : Nat} {e : TypeId} {v : Value} {xs : List Value} (hr : w.ownsRow base e size v n xs) (p : Addr) (hp : ∀ k, v.ownBlock = some k → k ≠ p.block) (u : Value) : (w.setCell p u).ownsRow base e size v n xs :=
 row_step hr fun k hk => hp_other _ _ _ _ (hp k hk)
theorem row_drew {w : World} {base n size : Nat} {e : TypeId} {v : Value} {xs : List Value} (hr : w.ownsRow base e size v n xs) : w.drew.ownsRow base e size v n xs := hr

theorem hs_other (W : World) (p : Addr) (v : Value) (q : Addr) (h : (p = q) = False) : (W.setCell p v).cell? q = W.cell? q := World.cell?_setCell_other _ _ _ _ (fun e => by rw [h] at e; exact e)
theorem hs_alloc (W : World) (o : Obj) (q : Addr) (h : (q.block < W.heap.size) = True) : (W.alloc o).cell? q = W.cell? q := World.cell?_alloc_lt _ _ _ (by rw [h]; trivial)
theorem hs_falloc (W : World) (o : Obj) (q : Addr) (h : (q.block = W.heap.size) = False) : (W.alloc o).frozen? q = W.frozen? q := World.frozen?_alloc_old _ _ _ (fun e => by rw [h] at e; exact e)
theorem keep_cell {w W : World} (hb : Below w.heap.size w W) {a : Addr} {v : Value} (h : w.cell? a = some v) : W.cell? a = some v := (hb.cell (World.block_lt_of_cell? w a h)).trans h
theorem run_store_func {P : Program} {w : World} {a : Addr} {m : Mode} (fn : Fn) (first cap : Array Value) : (store a (.func fn first cap) m).run P w = stored P w a (.func fn first cap) m := run_store P w a _ m rfl
theorem run_makeFunc {P : Program} (fn : Fn) (first cap : Array Value) (w : World) : (Instr.makeFunc fn first cap).run P w = .ok (.func fn first cap) w := rfl
theorem assert_struct {P : Program} {w : World} {fs : Array Field} (t xT : TypeId) (v : Value) (h : P.underlying t = some (.struct fs)) : (Instr.typeAssert (.iface t v) xT t true).run P w = .ok (.tuple #[v, .bool true]) w := by
 simp [Instr.typeAssert, run_underlying h, go_sem, Result.andThen]
theorem assert_other {P : Program} {w : World} {fs : Array Field} {j : TypeInfo} {z : Value} (t t' xT : TypeId) (v : Value) (h : P.underlying t' = some (.struct fs)) (hne : t ≠ t') (hj : P.info? t' = some j) (hz : j.zero = some z) : (Instr.typeAssert (.iface t v) xT t' true).run P w = .ok (.tuple #[z, .bool false]) w := by
 simp [Instr.typeAssert, run_underlying h, go_sem, Result.andThen, hne, zeroValue, typeInfo, hj, hz]
theorem assert_pointer {P : Program} {w : World} {e : TypeId} (t xT : TypeId) (v : Value) (h : P.underlying t = some (.pointer e)) : (Instr.typeAssert (.iface t v) xT t true).run P w = .ok (.tuple #[v, .bool true]) w := by
 simp [Instr.typeAssert, run_underlying h, go_sem, Result.andThen]
theorem assert_otherP {P : Program} {w : World} {e : TypeId} {j : TypeInfo} {z : Value} (t t' xT : TypeId) (v : Value) (h : P.underlying t' = some (.pointer e)) (hne : t ≠ t') (hj : P.info? t' = some j) (hz : j.zero = some z) : (Instr.typeAssert (.iface t v) xT t' true).run P w = .ok (.tuple #[z, .bool false]) w := by
 simp [Instr.typeAssert, run_underlying h, go_sem, Result.andThen, hne, zeroValue, typeInfo, hj, hz]
end Go.Proofs.YtgdoeoackhfikaaGreatDoor

namespace Go.Proofs.YtgdoeoackhfikaaGreatDoor
open Go.RowKit
set_option maxRecDepth 100000
theorem isLower (v : Value) (xT : TypeId) (w : World) : (Instr.typeAssert (.iface 346 v) xT 353 true).run Tryz.prog w = .ok (.tuple #[.iface 346 v, .bool true]) w :=
 run_typeAssert_hasB Tryz.underlying353 (by kernel_rfl) v xT w
theorem isUpper (v : Value) (xT : TypeId) (w : World) : (Instr.typeAssert (.iface 356 v) xT 353 true).run Tryz.prog w = .ok (.tuple #[.iface 356 v, .bool true]) w :=
 run_typeAssert_hasB Tryz.underlying353 (by kernel_rfl) v xT w

theorem pack_Index (z : Int) (w : World) :
  Calls Tryz.prog 217 #[.int .u64 z] w fun e w' => e = .returned (.int .u32 (idxOf z)) ∧ Below w.heap.size w w' := by
 have h1 := isLower
 go_enter Tryz.func217, Tryz.ntmps217
 go_wp2
 go_ret
 exact ⟨rfl, (Below.refl _ w).alloc (Nat.le_refl _) _⟩
theorem pack_Tag (z : Int) (w : World) (hz : 0 ≤ z ∧ z < 18446744073709551616) :
  Calls Tryz.prog 225 #[.int .u64 z] w fun e w' => e = .returned (.int .u32 (tagOf z)) ∧ Below w.heap.size w w' := by
 have h1 := isUpper
 go_enter Tryz.func225, Tryz.ntmps225
 go_wp2
 go_ret
 exact ⟨rfl, (Below.refl _ w).alloc (Nat.le_refl _) _⟩
theorem or_halves (i t : Int) (hi : 0 ≤ i ∧ i < 4294967296) (ht : 0 ≤ t ∧ t < 4294967296) : bits .or .u64 i (t * 4294967296) = wordOf i t := by
 obtain ⟨a, rfl⟩ : ∃ a : Nat, i = a := ⟨i.toNat, by omega⟩
 obtain ⟨b, rfl⟩ : ∃ b : Nat, t = b := ⟨t.toNat, by omega⟩
 have e : ((b : Int) * 4294967296) = ((b * 4294967296 : Nat) : Int) := by omega
 rw [e, bits_or_u64_nat a (b * 4294967296) (by omega) (by omega)]
 have h2 : a ||| b * 4294967296 = a + b * 4294967296 := by
  have h3 : b * 4294967296 = b <<< 32 := by rw [Nat.shiftLeft_eq]
  rw [h3, Nat.or_comm, ← Nat.shiftLeft_add_eq_or_of_lt (show a < 2 ^ 32 by omega)]
  omega
 rw [h2]
 unfold wordOf
 omega
theorem pack_Word (i t : Int) (w : World) (hi : 0 ≤ i ∧ i < 4294967296) (ht : 0 ≤ t ∧ t < 4294967296) :
  Calls Tryz.prog 76 #[.int .u32 i, .int .u32 t] w fun e w' => e = .returned (.int .u64 (wordOf i t)) ∧ w' = w := by
 have hb := or_halves i t hi ht
 go_enter Tryz.func76, Tryz.ntmps76
 go_wp2
 go_ret
 refine ⟨?_, rfl⟩
 rw [← hb]
 rfl
theorem pack_Next (z i : Int) (w : World) (hz : 0 ≤ z ∧ z < 18446744073709551616) (hi : 0 ≤ i ∧ i < 4294967296) :
  Calls Tryz.prog 224 #[.int .u64 z, .int .u32 i] w fun e w' => e = .returned (.int .u64 (wordOf i (nextTag z))) ∧ Below w.heap.size w w' := by
 go_enter Tryz.func224, Tryz.ntmps224
 go_wp2_with fail
 refine (pack_Tag z w hz).mono ?_
 rintro e w1 ⟨rfl, hb1⟩
 go_wp2_with fail
 refine (pack_Word i (nextTag z) w1 hi ⟨Int.emod_nonneg _ (by decide), Int.emod_lt_of_pos _ (by decide)⟩).mono ?_
 rintro e w2 ⟨rfl, rfl⟩
 go_wp2
 go_ret
 exact ⟨rfl, hb1⟩
end Go.Proofs.YtgdoeoackhfikaaGreatDoor

namespace Go.Proofs.YtgdoeoackhfikaaGreatDoor
open Go.RowKit
theorem obj_cells {w : World} {b : Nat} {cs : Array Value} {t : TypeId} (h : w.heap[b]? = some (.cells cs t (0, 0))) : (∀ j, w.cell? ⟨b, j, none⟩ = cs[j]?) ∧ (∀ j, w.frozen? ⟨b, j, none⟩ = false) ∧ b < w.heap.size := ⟨fun j => Lib.cell_of_heap h j, fun j => Lib.frozen_of_heap h j, lt_of_heap h⟩
theorem obj_below {w w1 : World} {b : Nat} {o : Obj} (hb : Below w.heap.size w w1) (h : w.heap[b]? = some o) : w1.heap[b]? = some o := (hb.block b (lt_of_heap h)).trans h
theorem set4 {W : World} {b : Nat} {t : TypeId} {c0 c1 c2 c3 v0 v1 v2 v3 : Value} (h : W.heap[b]? = some (.cells #[c0, c1, c2, c3] t (0, 0))) :
  ((((W.setCell ⟨b, 0, none⟩ v0).setCell ⟨b, 1, none⟩ v1).setCell ⟨b, 2, none⟩ v2).setCell ⟨b, 3, none⟩ v3).heap[b]? = some (.cells #[v0, v1, v2, v3] t (0, 0)) := by
 have := hp_same _ b 3 v3 (hp_same _ b 2 v2 (hp_same _ b 1 v1 (hp_same _ b 0 v0 h)))
 simpa using this
theorem Kp.nb {w W : World} (h : Below w.heap.size w W) : Kp (fun _ => False) w W := Kp.of_below h _
theorem Kp.to {w W W2 : World} {S : Nat → Prop} (h : Kp (fun _ => False) w W) (h2 : Kp S W W2) : Kp S w W2 := (h.mono (fun _ e => e.elim)).comp h2 (fun _ _ e => e)
theorem Kp.also {w W W2 : World} {S : Nat → Prop} (h : Kp S w W) (h2 : Kp (fun _ => False) W W2) : Kp S w W2 := h.comp h2 (fun _ _ e => e.elim)
theorem Kp.new {w W : World} (h : Kp (fun _ => False) w W) {b : Nat} (hb : w.heap.size ≤ b) (o : Nat) (v : Value) : Kp (fun _ => False) w (W.setCell ⟨b, o, none⟩ v) := h.st (.inr hb) o v
theorem Kp.blw {w W : World} (h : Kp (fun _ => False) w W) : Below w.heap.size w W := h.below (fun _ _ e => e)
end Go.Proofs.YtgdoeoackhfikaaGreatDoor

namespace Go.Proofs.YtgdoeoackhfikaaGreatDoor
open Go.RowKit Go.Proofs.YtgdoeoackhfikaaGreatDoorW.PrintWords
set_option maxRecDepth 100000
set_option maxHeartbeats 4000000
structure MB where
 m : Nat
 g : Nat
 cap : Nat
 nv : Value
def MB.has (b : MB) (k : Nat) : Prop := k = b.m ∨ k = b.g ∨ b.nv.ownBlock = some k
def accV (x : Acc) : List Value := [.int .u8 x.kind, .int .i64 x.at_, .int .u64 x.old, .int .u64 x.new, .bool x.ok]
structure MemAt (w : World) (b : MB) (σ : MemS) : Prop where
 own : w.heap[b.m]? = some (.cells #[.slice (some ⟨b.g, 0, none⟩) σ.words.length b.cap, b.nv] 147 (0, 0))
 words : w.ownsRow 0 33 1 (.slice (some ⟨b.g, 0, none⟩) σ.words.length b.cap) σ.words.length (nums .u64 σ.words)
 notes : w.ownsRow 0 340 5 b.nv σ.notes.length (σ.notes.flatMap accV)
 range : ∀ z ∈ σ.words, 0 ≤ z ∧ z < 18446744073709551616
 few : σ.words.length ≤ 1024
namespace MemAt
variable {w : World} {b : MB} {σ : MemS}
theorem c0 (h : MemAt w b σ) : w.cell? ⟨b.m, 0, none⟩ = some (.slice (some ⟨b.g, 0, none⟩) σ.words.length b.cap) := by rw [Lib.cell_of_heap h.own]; rfl
theorem c1 (h : MemAt w b σ) : w.cell? ⟨b.m, 1, none⟩ = some b.nv := by rw [Lib.cell_of_heap h.own]; rfl
theorem fm (h : MemAt w b σ) (o : Nat) : w.frozen? ⟨b.m, o, none⟩ = false := Lib.frozen_of_heap h.own o
theorem ltm (h : MemAt w b σ) : b.m < w.heap.size := lt_of_heap h.own
theorem row (h : MemAt w b σ) : ∃ cur, w.heap[b.g]? = some (.cells cur 33 (0, 0)) ∧ σ.words.length ≤ b.cap ∧ b.cap ≤ maxLen ∧ cur.size = b.cap ∧ cur.toList.take σ.words.length = nums .u64 σ.words := by
 rcases h.words.2 with ⟨hv, _⟩ | ⟨g, cap, cur, hv, _, hg, hn, hm, hs, ht⟩
 ·cases hv
 ·injection hv with ha _ hc
  injection ha with ha
  injection ha with ha
  subst ha hc
  exact ⟨cur, hg, hn, hm, by simpa using hs, by simpa using ht⟩
theorem ltg (h : MemAt w b σ) : b.g < w.heap.size := by obtain ⟨_, hg, _⟩ := h.row; exact lt_of_heap hg
theorem fg (h : MemAt w b σ) (o : Nat) : w.frozen? ⟨b.g, o, none⟩ = false := by obtain ⟨_, hg, _⟩ := h.row; exact Lib.frozen_of_heap hg o
theorem mg (h : MemAt w b σ) : b.m ≠ b.g := by obtain ⟨_, hg, _⟩ := h.row; exact ne_of_type h.own hg (by decide)
theorem cw (h : MemAt w b σ) {a : Nat} (ha : a < σ.words.length) : w.cell? ⟨b.g, a, none⟩ = some (.int .u64 (σ.get a)) := by
 have := h.words.cells (g := b.g) rfl a (.int .u64 (σ.get a)) (by simp [nums, MemS.get, List.getD, List.getElem?_eq_getElem ha])
 rw [addr_add] at this
 exact this
theorem getr (h : MemAt w b σ) {a : Nat} (ha : a < σ.words.length) : 0 ≤ σ.get a ∧ σ.get a < 18446744073709551616 :=
 h.range _ (by simp [MemS.get, List.getD, List.getElem?_eq_getElem ha])
theorem capb (h : MemAt w b σ) : σ.words.length ≤ b.cap ∧ b.cap ≤ 9223372036854775807 := by
 obtain ⟨_, _, h1, h2, _⟩ := h.row
 exact ⟨h1, by unfold maxLen at h2; omega⟩
end MemAt
def MemPost (w : World) (b : MB) (σ' : MemS) (w' : World) : Prop :=
 ∃ nv', MemAt w' { b with nv := nv' } σ' ∧ (∀ k, nv'.ownBlock = some k → b.nv.ownBlock = some k ∨ w.heap.size ≤ k) ∧ Kp b.has w w'
theorem MemAt.kept {S : Nat → Prop} {w W : World} {b : MB} {σ : MemS} (h : MemAt w b σ) (hk : Kp S w W) (hn : ∀ k, b.has k → ¬ S k) : MemAt W b σ :=
 ⟨hk.heap h.own (hn _ (.inl rfl)), hk.row h.words (fun k hk => hn k (.inr (.inl (by injection hk with hk; exact hk.symm)))), hk.row h.notes (fun k hk => hn k (.inr (.inr hk))), h.range, h.few⟩
theorem MemAt.noted {w W X W3 Wf : World} {b : MB} {σ : MemS} (h : MemAt w b σ) (hK : Kp (fun _ => False) w W) (x : Acc) (a : Nat) (hx : x.at_ = a) (ha : a < σ.words.length) (hz : 0 ≤ x.new ∧ x.new < 18446744073709551616)
  (hX : Kp (fun _ => False) (W.setCell ⟨b.g, a, none⟩ (.int .u64 x.new)) X) (hgrow : X.grownBy W3 b.nv.ownBlock) {g' cap' : Nat}
  (hown : W3.ownsRow 0 340 5 (.slice (some ⟨g', 0, none⟩) (σ.notes.length + 1) cap') (σ.notes.length + 1) (σ.notes.flatMap accV ++ accV x))
  (hat : b.nv.ownBlock = some g' ∨ g' = X.heap.size) (hlt : w.heap.size < X.heap.size)
  (hf : Kp (fun k => k = w.heap.size) (W3.setCell ⟨b.m, 1, none⟩ (.slice (some ⟨g', 0, none⟩) (σ.notes.length + 1) cap')) Wf) : MemPost w b (σ.note x) Wf := by
 have hmg := h.mg
 have hm := h.ltm
 have hg := h.ltg
 have nm : ∀ k, b.nv.ownBlock = some k → k ≠ b.m := ne_of_row h.own h.notes (by decide)
 have ng : ∀ k, b.nv.ownBlock = some k → k ≠ b.g := by obtain ⟨cur, hr, _⟩ := h.row; exact ne_of_row hr h.notes (by decide)
 have nl : ∀ k, b.nv.ownBlock = some k → k < w.heap.size := fun k hk => (h.notes.lt k hk).2
 have s1 := hK.size
 have s2 := hX.size
 have s3 := hgrow.size
 have s4 := hf.size
 simp only [World.size_setCell] at s2 s4
 have g'm : g' ≠ b.m := by rcases hat with e | e; exact nm _ e; omega
 have g'g : g' ≠ b.g := by rcases hat with e | e; exact ng _ e; omega
 have g'r : g' ≠ w.heap.size := by rcases hat with e | e; (have := nl _ e; omega); omega
 have hw1 : W.ownsRow 0 33 1 (.slice (some ⟨b.g, 0, none⟩) σ.words.length b.cap) σ.words.length (nums .u64 σ.words) := hK.row h.words (fun _ _ e => e)
 have hw2 := own_setAt hw1 a (by omega) (.int .u64 x.new)
 have hw3 := hX.row hw2 (fun _ _ e => e)
 have hw4 : W3.ownsRow 0 33 1 (.slice (some ⟨b.g, 0, none⟩) σ.words.length b.cap) σ.words.length ((nums .u64 σ.words).set a (.int .u64 x.new)) := row_step hw3 fun k hk => hgrow.block k ((hw3.lt k hk).2) (fun e => by injection hk with hk; exact ng _ e.symm hk.symm)
 have hw5 := row_setCell hw4 ⟨b.m, 1, none⟩ (fun k hk => by injection hk with hk; have : k = b.g := hk.symm; rw [this]; exact Ne.symm hmg) (.slice (some ⟨g', 0, none⟩) (σ.notes.length + 1) cap')
 have hw6 := hf.row hw5 (fun k hk => by injection hk with hk; have : k = b.g := hk.symm; omega)
 have hb1 := hK.heap h.own (fun e => e)
 have hb2 : (W.setCell ⟨b.g, a, none⟩ (.int .u64 x.new)).heap[b.m]? = _ := (hp_other _ _ _ _ hmg).trans hb1
 have hb3 := hX.heap hb2 (fun e => e)
 have hb4 : W3.heap[b.m]? = _ := (hgrow.block b.m (lt_of_heap hb3) (fun e => nm _ e.symm rfl)).trans hb3
 have hb5 := hp_same W3 b.m 1 (.slice (some ⟨g', 0, none⟩) (σ.notes.length + 1) cap') hb4
 have hb6 := hf.heap hb5 (by omega)
 have hn5 := row_setCell hown ⟨b.m, 1, none⟩ (fun k hk => by injection hk with hk; have : k = g' := hk.symm; rw [this]; exact g'm) (.slice (some ⟨g', 0, none⟩) (σ.notes.length + 1) cap')
 have hn6 := hf.row hn5 (fun k hk => by injection hk with hk; have : k = g' := hk.symm; omega)
 refine ⟨.slice (some ⟨g', 0, none⟩) (σ.notes.length + 1) cap', ⟨?_, ?_, ?_, ?_, ?_⟩, ?_, ?_⟩
 ·simp only [MemS.note, hx, Int.toNat_natCast, List.length_set]
  exact hb6
 ·simp only [MemS.note, hx, Int.toNat_natCast, List.length_set]
  have e : nums .u64 (σ.words.set a x.new) = (nums .u64 σ.words).set a (.int .u64 x.new) := by simp [nums, List.map_set]
  rw [e]
  exact hw6
 ·simp only [MemS.note, List.length_append, List.length_singleton, List.flatMap_append, List.flatMap_cons, List.flatMap_nil, List.append_nil]
  exact hn6
 ·intro z hz'
  simp only [MemS.note] at hz'
  rcases List.mem_or_eq_of_mem_set hz' with h1 | h1
  ·exact h.range z h1
  ·rw [h1]; exact hz
 ·simp only [MemS.note, List.length_set]; exact h.few
 ·intro k hk
  injection hk with hk
  have : k = g' := hk.symm
  rw [this]
  rcases hat with e | e
  ·exact .inl e
  ·right; omega
 ·have k1 : Kp b.has w W := hK.mono (fun _ e => e.elim)
  have k2 : Kp b.has w (W.setCell ⟨b.g, a, none⟩ (.int .u64 x.new)) := k1.setCell (.inl (.inr (.inl rfl))) _
  have k3 := k2.comp hX (fun _ _ e => e.elim)
  have k4 := k3.grown hgrow (fun k _ e => .inr (.inr e))
  have k5 := k4.setCell (p := ⟨b.m, 1, none⟩) (.inl (.inl rfl)) (.slice (some ⟨g', 0, none⟩) (σ.notes.length + 1) cap')
  exact k5.comp hf (fun k hk e => by omega)
theorem kc {W : World} {a : Addr} {v : Value} (o : Obj) (h : W.cell? a = some v) : (W.alloc o).cell? a = some v := (World.cell?_alloc_lt _ _ _ (World.block_lt_of_cell? W a h)).trans h
theorem kf {W : World} {b o : Nat} {f : Bool} (x : Obj) (hl : b < W.heap.size) (h : W.frozen? ⟨b, o, none⟩ = f) : (W.alloc x).frozen? ⟨b, o, none⟩ = f := (World.frozen?_alloc_old _ _ _ (fun e => by have : b = W.heap.size := e; omega)).trans h
theorem gf {X W' : World} {row : Option Nat} {b o : Nat} {f : Bool} (hg : X.grownBy W' row) (hne : some b ≠ row) (hl : b < X.heap.size) (h : X.frozen? ⟨b, o, none⟩ = f) : W'.frozen? ⟨b, o, none⟩ = f :=
 (World.frozen?_of_block (hg.block b hl hne)).trans h
theorem infoAcc : (Tryz.prog.info? 340).map (fun i => (i.zero, i.size, i.bytes)) = some (some (.agg #[.int .u8 0, .int .i64 0, .int .u64 0, .int .u64 0, .bool false]), 5, 40) := by kernel_rfl
theorem isSome_of {α : Type} {o : Option α} {v : α} (h : o = some v) : o.isSome = true := by rw [h]; rfl
theorem info_zero {P : Program} {t : TypeId} {z : Value} (h : (P.info? t).map (fun i => i.zero) = some (some z)) : ∃ i, P.info? t = some i ∧ i.zero = some z := Option.map_eq_some_iff.1 h
theorem info_load : (Tryz.prog.info? 344).map (fun i => i.zero) = some (some (.agg #[])) := by kernel_rfl
theorem info_store : (Tryz.prog.info? 349).map (fun i => i.zero) = some (some (.agg #[.int .u64 0])) := by kernel_rfl
end Go.Proofs.YtgdoeoackhfikaaGreatDoor

namespace Go.Proofs.YtgdoeoackhfikaaGreatDoor
open Go.RowKit Go.Proofs.YtgdoeoackhfikaaGreatDoorW.PrintWords
set_option maxRecDepth 100000
set_option maxHeartbeats 4000000
set_option linter.unusedSimpArgs false
set_option linter.unusedVariables false
attribute [local go_sem] hs_other hs_alloc hs_falloc
attribute [local go_sem ↓] Go.wp_at_zero Go.wp_at_succ
theorem access_load (w : World) (b : MB) (σ : MemS) (h : MemAt w b σ) (a : Nat) (ha : a < σ.words.length) (hfn : σ.notes.length < 1000000000) :
  Calls Tryz.prog 219 #[.pointer (some ⟨b.m, 0, none⟩), .int .i64 a, .iface 344 (.agg #[])] w fun e w' => e = .returned (.tuple #[.agg #[.int .u8 108, .int .i64 a, .int .u64 (σ.get a), .int .u64 (σ.get a), .bool true], .int .i64 0]) ∧ MemPost w b (σ.note ⟨108, a, σ.get a, σ.get a, true⟩) w' := by
 have hzr : 0 ≤ σ.get a ∧ σ.get a < 18446744073709551616 := h.getr ha
 have c0 := h.c0
 have c1 := h.c1
 have f1 := h.fm 1
 have hm := h.ltm
 have hg := h.ltg
 have mg := h.mg
 have cw := h.cw ha
 have fg := h.fg a
 have hcap := h.capb
 have hf := h.few
 obtain ⟨m, g, cap, nv⟩ := b
 simp only at c0 c1 f1 hm hg mg cw fg hcap
 generalize hz : σ.get a = z at *
 have HZ := Lib.hid hz
 clear hz
 have ha' : (a : Int) < (σ.words.length : Int) := by omega
 have mg0 : (m = g) = False := eq_false mg
 have gm0 : (g = m) = False := eq_false (Ne.symm mg)
 have mN : (m = w.heap.size) = False := eq_false (by omega)
 have gN : (g = w.heap.size) = False := eq_false (by omega)
 have Nm : (w.heap.size = m) = False := eq_false (by omega)
 have Ng : (w.heap.size = g) = False := eq_false (by omega)
 have hm1 : m < w.heap.size + 1 := by omega
 have nn : w.heap.size ≠ m := by omega
 have hg1 : g < w.heap.size + 1 := by omega
 have as_load : ∀ (v : Value) (xT : TypeId) (w : World), (Instr.typeAssert (.iface 344 v) xT 344 true).run Tryz.prog w = .ok (.tuple #[v, .bool true]) w := fun v xT w => assert_struct _ _ _ Tryz.underlying344
 go_enter Tryz.func219, Tryz.ntmps219
 go_wp2
 go_region_held3 (fun w' => w'.cell? ⟨m, 0, none⟩ = some (.slice (some ⟨g, 0, none⟩) σ.words.length cap) ∧ w'.cell? ⟨g, a, none⟩ = some (.int .u64 z))
  (exact ⟨keep_cell (by go_grown) c0, keep_cell (by go_grown) cw⟩)
  (fail)
 go_wp2
 refine wp_world ?_
 intro W hW
 have hK : Kp (fun _ => False) w W := by rw [hW]; exact Kp.of_below (by go_grown) _
 have kn : W.heap[w.heap.size + 1]? = some (.cells #[.int .u8 108, .int .i64 a, .int .u64 z, .int .u64 z, .bool true] 340 (0, 0)) := by
  rw [hW]
  rw [hp_drew, hp_alloc _ _ _ (by simp), hp_new _ _ _ (by simp)]
 have kr : W.heap[w.heap.size]? = some (.cells #[.int .u8 0, .int .i64 0, .int .u64 0, .int .u64 0, .bool false] 340 (0, 0)) := by
  rw [hW]
  simp (disch := first | omega | (simp; done) | (simp; omega)) only [hp_drew, hp_alloc, hp_other, hp_new]
 have k0 : W.cell? ⟨m, 0, none⟩ = some (.slice (some ⟨g, 0, none⟩) σ.words.length cap) := hK.cell c0 (fun e => e)
 have k1 : W.cell? ⟨m, 1, none⟩ = some nv := hK.cell c1 (fun e => e)
 have kw : W.cell? ⟨g, a, none⟩ = some (.int .u64 z) := hK.cell cw (fun e => e)
 have kf : W.frozen? ⟨g, a, none⟩ = false := hK.froz hg (fun e => e) fg
 have kf1 : W.frozen? ⟨m, 1, none⟩ = false := hK.froz hm (fun e => e) f1
 have kn3 : W.cell? ⟨w.heap.size + 1, 3, none⟩ = some (.int .u64 z) := by rw [Lib.cell_of_heap kn]; rfl
 clear hW c0 c1 f1 cw fg
 have s0 : (W.setCell ⟨g, a, none⟩ (.int .u64 z)).cell? ⟨m, 0, none⟩ = some (.slice (some ⟨g, 0, none⟩) σ.words.length cap) := (hs_other _ _ _ _ (by simp [gm0])).trans k0
 have s3 : (W.setCell ⟨g, a, none⟩ (.int .u64 z)).cell? ⟨w.heap.size + 1, 3, none⟩ = some (.int .u64 z) := (hs_other _ _ _ _ (by first | (simp; done) | (simp; omega))).trans kn3
 have sf : (W.setCell ⟨g, a, none⟩ (.int .u64 z)).frozen? ⟨g, a, none⟩ = false := (World.frozen?_setCell _ _ _ _).trans kf
 have sw : (W.setCell ⟨g, a, none⟩ (.int .u64 z)).cell? ⟨g, a, none⟩ = some (.int .u64 z) := World.cell?_setCell_same _ _ _ kw
 go_region_held3 (fun w' => w'.cell? ⟨m, 0, none⟩ = some (.slice (some ⟨g, 0, none⟩) σ.words.length cap) ∧ w'.cell? ⟨w.heap.size + 1, 3, none⟩ = some (.int .u64 z) ∧ (w'.cell? ⟨g, a, none⟩).isSome = true ∧ w'.frozen? ⟨g, a, none⟩ = false)
  (first | exact ⟨k0, kn3, isSome_of kw, kf⟩ | exact ⟨s0, s3, isSome_of sw, sf⟩)
  (fail)
 go_wp2
 refine wp_world ?_
 intro W2 hW2
 obtain ⟨i0, hi, hz0, hz1, hz2⟩ := info_parts infoAcc
 have hown : W2.ownsRow 0 340 5 nv σ.notes.length (σ.notes.flatMap accV) := by
  rw [hW2]
  refine row_drew (row_setCell (hK.row h.notes (fun _ _ h => h)) _ (fun k hk => ?_) _)
  exact fun e => ne_of_row (by exact h.row.choose_spec.1) h.notes (by decide) k hk e
 have m1 : W2.cell? ⟨m, 1, none⟩ = some nv := by rw [hW2]; exact (hs_other _ _ _ _ (by simp [gm0])).trans k1
 have mf : W2.frozen? ⟨m, 1, none⟩ = false := by rw [hW2]; exact (World.frozen?_setCell _ _ _ _).trans kf1
 have kn2 : W2.heap[w.heap.size + 1]? = some (.cells #[.int .u8 108, .int .i64 a, .int .u64 z, .int .u64 z, .bool true] 340 (0, 0)) := by
  rw [hW2, hp_drew, hp_other _ _ _ _ (by first | (simp; done) | (simp; omega))]; exact kn
 have a0 : W2.cell? ⟨w.heap.size + 1, 0, none⟩ = some (.int .u8 108) := by rw [Lib.cell_of_heap kn2]; rfl
 have a1 : W2.cell? ⟨w.heap.size + 1, 1, none⟩ = some (.int .i64 a) := by rw [Lib.cell_of_heap kn2]; rfl
 have a2 : W2.cell? ⟨w.heap.size + 1, 2, none⟩ = some (.int .u64 z) := by rw [Lib.cell_of_heap kn2]; rfl
 have a3 : W2.cell? ⟨w.heap.size + 1, 3, none⟩ = some (.int .u64 z) := by rw [Lib.cell_of_heap kn2]; rfl
 have a4 : W2.cell? ⟨w.heap.size + 1, 4, none⟩ = some (.bool true) := by rw [Lib.cell_of_heap kn2]; rfl
 have hlt2 : w.heap.size ≤ W2.heap.size := by rw [hW2]; simpa using hK.size
 have hm2 : m < W2.heap.size := by omega
 have hm3 : m < (W2.alloc (.cells #[.int .u8 108, .int .i64 a, .int .u64 z, .int .u64 z, .bool true] 340)).drew.heap.size := by simp; omega
 have n1 : some m ≠ nv.ownBlock := fun e => ne_of_row h.own h.notes (by decide) m e.symm rfl
 have n2 : some (w.heap.size + 1) ≠ nv.ownBlock := fun e => by have := (h.notes.lt _ e.symm).2; omega
 have kr2 : W2.heap[w.heap.size]? = some (.cells #[.int .u8 0, .int .i64 0, .int .u64 0, .int .u64 0, .bool false] 340 (0, 0)) := by
  rw [hW2, hp_drew, hp_other _ _ _ _ (by first | (simp; done) | (simp; omega))]; exact kr
 have b0 : W2.cell? ⟨w.heap.size, 0, none⟩ = some (.int .u8 0) := by rw [Lib.cell_of_heap kr2]; rfl
 have b1 : W2.cell? ⟨w.heap.size, 1, none⟩ = some (.int .i64 0) := by rw [Lib.cell_of_heap kr2]; rfl
 have b2 : W2.cell? ⟨w.heap.size, 2, none⟩ = some (.int .u64 0) := by rw [Lib.cell_of_heap kr2]; rfl
 have b3 : W2.cell? ⟨w.heap.size, 3, none⟩ = some (.int .u64 0) := by rw [Lib.cell_of_heap kr2]; rfl
 have b4 : W2.cell? ⟨w.heap.size, 4, none⟩ = some (.bool false) := by rw [Lib.cell_of_heap kr2]; rfl
 have rf2 : ∀ o, W2.frozen? ⟨w.heap.size, o, none⟩ = false := fun o => Lib.frozen_of_heap kr2 o
 have hr2 : w.heap.size < W2.heap.size := lt_of_heap kr2
 have hr3 : w.heap.size < (W2.alloc (.cells #[.int .u8 108, .int .i64 a, .int .u64 z, .int .u64 z, .bool true] 340)).drew.heap.size := by simp; omega
 have n3 : some w.heap.size ≠ nv.ownBlock := fun e => by have := (h.notes.lt _ e.symm).2; omega
 have mN1 : (m = w.heap.size + 1) = False := eq_false (by omega)
 have hX2 : Kp (fun _ => False) (W.setCell ⟨g, a, none⟩ (.int .u64 z)) W2 := by rw [hW2]; exact (Kp.refl _ _).drew
 have HO := Lib.hid hown
 have HW2 := Lib.hid hW2
 clear hW2 k0 k1 kw kf kf1 s0 s3 sw sf kn3 hown
 have e1 : ∀ (o : Obj), ((W2.alloc o).cell? ⟨m, 1, none⟩) = some nv := fun o => kc o m1
 have e0 : ∀ (o : Obj), ((W2.alloc o).frozen? ⟨m, 1, none⟩) = false := fun o => kf o hm2 mf
 go_region_law (refine step_append_lies _ (by rfl) _ _ _ (by rfl) 0 340 i0 _ 5 40 Tryz.underlying145 hi hz0 hz1 hz2 rfl (by decide) nv σ.notes.length _ (by rfl) (row_alloc HO.out _) ⟨W2.heap.size, 0, none⟩ 1 1 [.int .u8 108, .int .i64 a, .int .u64 z, .int .u64 z, .bool true] (by rfl) (by rfl) (World.news_of_block (heap_alloc_new _ _)) (by simp [Value.oneCell']) (by omega) (by unfold maxLen; omega) (by omega) (by simp) _ rfl ?_; intro g' cap' W3 hown3 hgrow hat hlt; have q1 := hgrow.cell (kc _ m1) n1; have q2 := gf hgrow n1 hm3 (kf _ hm2 mf); have p0 := hgrow.cell (kc _ a0) n2; have p1 := hgrow.cell (kc _ a1) n2; have p2 := hgrow.cell (kc _ a2) n2; have p3 := hgrow.cell (kc _ a3) n2; have p4 := hgrow.cell (kc _ a4) n2; have r0 := hgrow.cell (kc _ b0) n3; have r1 := hgrow.cell (kc _ b1) n3; have r2 := hgrow.cell (kc _ b2) n3; have r3 := hgrow.cell (kc _ b3) n3; have r4 := hgrow.cell (kc _ b4) n3; have rf : ∀ o, W3.frozen? ⟨w.heap.size, o, none⟩ = false := fun o => gf hgrow n3 hr3 (kf _ hr2 (rf2 o)); have rr : W3.heap[w.heap.size]? = some (.cells #[.int .u8 0, .int .i64 0, .int .u64 0, .int .u64 0, .bool false] 340 (0, 0)) := (hgrow.block _ hr3 n3).trans ((hp_alloc _ _ _ hr2).trans kr2))
 all_goals go_wp2
 all_goals refine any_world (p := fun W => bodyPost _ _ _ _ _ W) ?_
 all_goals intro W4 hW4
 all_goals have hX4 := set5 (v0 := .int .u8 108) (v1 := .int .i64 a) (v2 := .int .u64 z) (v3 := .int .u64 z) (v4 := .bool true) ((hp_other W3 ⟨m, 1, none⟩ (.slice (some ⟨g', 0, none⟩) (σ.notes.length + 1) cap') w.heap.size nn).trans rr)
 all_goals have hF := kp5 (W3.setCell ⟨m, 1, none⟩ (.slice (some ⟨g', 0, none⟩) (σ.notes.length + 1) cap')) w.heap.size (.int .u8 108) (.int .i64 a) (.int .u64 z) (.int .u64 z) (.bool true)
 all_goals rw [← hW4] at hX4 hF
 all_goals have d0 : W4.cell? ⟨w.heap.size, 0, none⟩ = some (.int .u8 108) := by rw [Lib.cell_of_heap hX4]; rfl
 all_goals have d1 : W4.cell? ⟨w.heap.size, 1, none⟩ = some (.int .i64 a) := by rw [Lib.cell_of_heap hX4]; rfl
 all_goals have d2 : W4.cell? ⟨w.heap.size, 2, none⟩ = some (.int .u64 z) := by rw [Lib.cell_of_heap hX4]; rfl
 all_goals have d3 : W4.cell? ⟨w.heap.size, 3, none⟩ = some (.int .u64 z) := by rw [Lib.cell_of_heap hX4]; rfl
 all_goals have d4 : W4.cell? ⟨w.heap.size, 4, none⟩ = some (.bool true) := by rw [Lib.cell_of_heap hX4]; rfl
 all_goals clear hW4
 all_goals refine bodyPost_ret (v := .tuple #[.agg #[.int .u8 108, .int .i64 a, .int .u64 z, .int .u64 z, .bool true], .int .i64 0]) (by simp [results, Tryz.results219, go_sem, d0, d1, d2, d3, d4]) rfl ?_
 all_goals exact ⟨rfl, h.noted hK ⟨108, a, z, z, true⟩ a rfl ha hzr ((hX2.alloc _).drew) hgrow hown3 hat hr3 hF⟩
theorem access_store (w : World) (b : MB) (σ : MemS) (h : MemAt w b σ) (a : Nat) (ha : a < σ.words.length) (hfn : σ.notes.length < 1000000000) (v : Int) (hv : 0 ≤ v ∧ v < 18446744073709551616) :
  Calls Tryz.prog 219 #[.pointer (some ⟨b.m, 0, none⟩), .int .i64 a, .iface 349 (.agg #[.int .u64 v])] w fun e w' => e = .returned (.tuple #[.agg #[.int .u8 115, .int .i64 a, .int .u64 (σ.get a), .int .u64 v, .bool true], .int .i64 0]) ∧ MemPost w b (σ.note ⟨115, a, σ.get a, v, true⟩) w' := by
 have hzr : 0 ≤ σ.get a ∧ σ.get a < 18446744073709551616 := h.getr ha
 have c0 := h.c0
 have c1 := h.c1
 have f1 := h.fm 1
 have hm := h.ltm
 have hg := h.ltg
 have mg := h.mg
 have cw := h.cw ha
 have fg := h.fg a
 have hcap := h.capb
 have hf := h.few
 obtain ⟨m, g, cap, nv⟩ := b
 simp only at c0 c1 f1 hm hg mg cw fg hcap
 generalize hz : σ.get a = z at *
 have HZ := Lib.hid hz
 clear hz
 have ha' : (a : Int) < (σ.words.length : Int) := by omega
 have mg0 : (m = g) = False := eq_false mg
 have gm0 : (g = m) = False := eq_false (Ne.symm mg)
 have mN : (m = w.heap.size) = False := eq_false (by omega)
 have gN : (g = w.heap.size) = False := eq_false (by omega)
 have Nm : (w.heap.size = m) = False := eq_false (by omega)
 have Ng : (w.heap.size = g) = False := eq_false (by omega)
 have hm1 : m < w.heap.size + 1 := by omega
 have nn : w.heap.size ≠ m := by omega
 have hg1 : g < w.heap.size + 1 := by omega
 obtain ⟨ii_load, hii_load, hiz_load⟩ := info_zero info_load
 have no_load : ∀ (v : Value) (xT : TypeId) (w : World), (Instr.typeAssert (.iface 349 v) xT 344 true).run Tryz.prog w = .ok (.tuple #[.agg #[], .bool false]) w := fun v xT w => assert_other _ _ _ _ Tryz.underlying344 (by decide) hii_load hiz_load
 have as_store : ∀ (v : Value) (xT : TypeId) (w : World), (Instr.typeAssert (.iface 349 v) xT 349 true).run Tryz.prog w = .ok (.tuple #[v, .bool true]) w := fun v xT w => assert_struct _ _ _ Tryz.underlying349
 go_enter Tryz.func219, Tryz.ntmps219
 go_wp2
 go_region_held3 (fun w' => w'.cell? ⟨m, 0, none⟩ = some (.slice (some ⟨g, 0, none⟩) σ.words.length cap) ∧ w'.cell? ⟨g, a, none⟩ = some (.int .u64 z))
  (exact ⟨keep_cell (by go_grown) c0, keep_cell (by go_grown) cw⟩)
  (fail)
 go_wp2
 refine wp_world ?_
 intro V hV
 have hKV : Kp (fun _ => False) w V := by rw [hV]; exact Kp.of_below (by go_grown) _
 have vn : V.heap[w.heap.size + 1]? = some (.cells #[.int .u8 0, .int .i64 a, .int .u64 z, .int .u64 z, .bool true] 340 (0, 0)) := by
  rw [hV]
  simp (disch := first | omega | (simp; done) | (simp; omega)) only [hp_drew, hp_alloc, hp_other, hp_new]
 have vr : V.heap[w.heap.size]? = some (.cells #[.int .u8 0, .int .i64 0, .int .u64 0, .int .u64 0, .bool false] 340 (0, 0)) := by
  rw [hV]
  simp (disch := first | omega | (simp; done) | (simp; omega)) only [hp_drew, hp_alloc, hp_other, hp_new]
 have vxh : V.heap[w.heap.size + 1 + 1]? = some (.cells #[.int .u64 v] 349 (0, 0)) := by
  rw [hV]
  simp (disch := first | omega | (simp; done) | (simp; omega)) only [hp_drew, hp_alloc, hp_other, hp_new]
 have vx : V.cell? ⟨w.heap.size + 1 + 1, 0, none⟩ = some (.int .u64 v) := by rw [Lib.cell_of_heap vxh]; rfl
 clear hV
 have v0 : V.cell? ⟨w.heap.size + 1, 0, none⟩ = some (.int .u8 0) := by rw [Lib.cell_of_heap vn]; rfl
 have v2 : V.cell? ⟨w.heap.size + 1, 2, none⟩ = some (.int .u64 z) := by rw [Lib.cell_of_heap vn]; rfl
 have v3 : V.cell? ⟨w.heap.size + 1, 3, none⟩ = some (.int .u64 z) := by rw [Lib.cell_of_heap vn]; rfl
 have v4 : V.cell? ⟨w.heap.size + 1, 4, none⟩ = some (.bool true) := by rw [Lib.cell_of_heap vn]; rfl
 have vf : ∀ o, V.frozen? ⟨w.heap.size + 1, o, none⟩ = false := fun o => Lib.frozen_of_heap vn o
 have V1f : ∀ o, (V.setCell ⟨w.heap.size + 1, 0, none⟩ (.int .u8 115)).frozen? ⟨w.heap.size + 1, o, none⟩ = false := fun o => (World.frozen?_setCell _ _ _ _).trans (vf o)
 have V1x : (V.setCell ⟨w.heap.size + 1, 0, none⟩ (.int .u8 115)).cell? ⟨w.heap.size + 1 + 1, 0, none⟩ = some (.int .u64 v) := (hs_other _ _ _ _ (by simp)).trans vx
 have V10 : (V.setCell ⟨w.heap.size + 1, 0, none⟩ (.int .u8 115)).cell? ⟨w.heap.size + 1, 0, none⟩ = some (.int .u8 115) := World.cell?_setCell_same _ _ _ v0
 have V13 : (V.setCell ⟨w.heap.size + 1, 0, none⟩ (.int .u8 115)).cell? ⟨w.heap.size + 1, 3, none⟩ = some (.int .u64 z) := (hs_other _ _ _ _ (by simp)).trans v3
 have V2f : ∀ o, ((V.setCell ⟨w.heap.size + 1, 0, none⟩ (.int .u8 115)).setCell ⟨w.heap.size + 1, 3, none⟩ (.int .u64 v)).frozen? ⟨w.heap.size + 1, o, none⟩ = false := fun o => (World.frozen?_setCell _ _ _ _).trans (V1f o)
 have V2x : ((V.setCell ⟨w.heap.size + 1, 0, none⟩ (.int .u8 115)).setCell ⟨w.heap.size + 1, 3, none⟩ (.int .u64 v)).cell? ⟨w.heap.size + 1 + 1, 0, none⟩ = some (.int .u64 v) := (hs_other _ _ _ _ (by simp)).trans V1x
 have V20 : ((V.setCell ⟨w.heap.size + 1, 0, none⟩ (.int .u8 115)).setCell ⟨w.heap.size + 1, 3, none⟩ (.int .u64 v)).cell? ⟨w.heap.size + 1, 0, none⟩ = some (.int .u8 115) := (hs_other _ _ _ _ (by simp)).trans V10
 have V23 : ((V.setCell ⟨w.heap.size + 1, 0, none⟩ (.int .u8 115)).setCell ⟨w.heap.size + 1, 3, none⟩ (.int .u64 v)).cell? ⟨w.heap.size + 1, 3, none⟩ = some (.int .u64 v) := World.cell?_setCell_same _ _ _ V13
 go_region_held3 (fun w' => w'.cell? ⟨w.heap.size + 1 + 1, 0, none⟩ = some (.int .u64 v) ∧ (w'.cell? ⟨w.heap.size + 1, 0, none⟩).isSome = true ∧ (w'.cell? ⟨w.heap.size + 1, 3, none⟩).isSome = true ∧ w'.frozen? ⟨w.heap.size + 1, 0, none⟩ = false ∧ w'.frozen? ⟨w.heap.size + 1, 3, none⟩ = false)
  (first | exact ⟨vx, isSome_of v0, isSome_of v3, vf 0, vf 3⟩ | exact ⟨V1x, isSome_of V10, isSome_of V13, V1f 0, V1f 3⟩ | exact ⟨V2x, isSome_of V20, isSome_of V23, V2f 0, V2f 3⟩)
  (fail)
 clear V1f V1x V10 V13 V2f V2x V20 V23 v0 v2 v3 v4 vf
 go_wp2
 refine wp_world ?_
 intro W hW
 have hK : Kp (fun _ => False) w W := by rw [hW]; exact (((hKV.st (.inr (by omega)) 0 _).st (.inr (by omega)) 3 _).drew)
 have kn : W.heap[w.heap.size + 1]? = some (.cells #[.int .u8 115, .int .i64 a, .int .u64 z, .int .u64 v, .bool true] 340 (0, 0)) := by
  rw [hW]
  rw [hp_drew]; exact hp_same _ _ 3 (.int .u64 v) (hp_same _ _ 0 (.int .u8 115) vn)
 have kr : W.heap[w.heap.size]? = some (.cells #[.int .u8 0, .int .i64 0, .int .u64 0, .int .u64 0, .bool false] 340 (0, 0)) := by
  rw [hW]
  rw [hp_drew, hp_other _ _ _ _ (by simp), hp_other _ _ _ _ (by simp)]; exact vr
 have k0 : W.cell? ⟨m, 0, none⟩ = some (.slice (some ⟨g, 0, none⟩) σ.words.length cap) := hK.cell c0 (fun e => e)
 have k1 : W.cell? ⟨m, 1, none⟩ = some nv := hK.cell c1 (fun e => e)
 have kw : W.cell? ⟨g, a, none⟩ = some (.int .u64 z) := hK.cell cw (fun e => e)
 have kf : W.frozen? ⟨g, a, none⟩ = false := hK.froz hg (fun e => e) fg
 have kf1 : W.frozen? ⟨m, 1, none⟩ = false := hK.froz hm (fun e => e) f1
 have kn3 : W.cell? ⟨w.heap.size + 1, 3, none⟩ = some (.int .u64 v) := by rw [Lib.cell_of_heap kn]; rfl
 clear hW c0 c1 f1 cw fg
 have s0 : (W.setCell ⟨g, a, none⟩ (.int .u64 v)).cell? ⟨m, 0, none⟩ = some (.slice (some ⟨g, 0, none⟩) σ.words.length cap) := (hs_other _ _ _ _ (by simp [gm0])).trans k0
 have s3 : (W.setCell ⟨g, a, none⟩ (.int .u64 v)).cell? ⟨w.heap.size + 1, 3, none⟩ = some (.int .u64 v) := (hs_other _ _ _ _ (by first | (simp; done) | (simp; omega))).trans kn3
 have sf : (W.setCell ⟨g, a, none⟩ (.int .u64 v)).frozen? ⟨g, a, none⟩ = false := (World.frozen?_setCell _ _ _ _).trans kf
 have sw : (W.setCell ⟨g, a, none⟩ (.int .u64 v)).cell? ⟨g, a, none⟩ = some (.int .u64 v) := World.cell?_setCell_same _ _ _ kw
 go_region_held3 (fun w' => w'.cell? ⟨m, 0, none⟩ = some (.slice (some ⟨g, 0, none⟩) σ.words.length cap) ∧ w'.cell? ⟨w.heap.size + 1, 3, none⟩ = some (.int .u64 v) ∧ (w'.cell? ⟨g, a, none⟩).isSome = true ∧ w'.frozen? ⟨g, a, none⟩ = false)
  (first | exact ⟨k0, kn3, isSome_of kw, kf⟩ | exact ⟨s0, s3, isSome_of sw, sf⟩)
  (fail)
 go_wp2
 refine wp_world ?_
 intro W2 hW2
 obtain ⟨i0, hi, hz0, hz1, hz2⟩ := info_parts infoAcc
 have hown : W2.ownsRow 0 340 5 nv σ.notes.length (σ.notes.flatMap accV) := by
  rw [hW2]
  refine row_drew (row_setCell (hK.row h.notes (fun _ _ h => h)) _ (fun k hk => ?_) _)
  exact fun e => ne_of_row (by exact h.row.choose_spec.1) h.notes (by decide) k hk e
 have m1 : W2.cell? ⟨m, 1, none⟩ = some nv := by rw [hW2]; exact (hs_other _ _ _ _ (by simp [gm0])).trans k1
 have mf : W2.frozen? ⟨m, 1, none⟩ = false := by rw [hW2]; exact (World.frozen?_setCell _ _ _ _).trans kf1
 have kn2 : W2.heap[w.heap.size + 1]? = some (.cells #[.int .u8 115, .int .i64 a, .int .u64 z, .int .u64 v, .bool true] 340 (0, 0)) := by
  rw [hW2, hp_drew, hp_other _ _ _ _ (by first | (simp; done) | (simp; omega))]; exact kn
 have a0 : W2.cell? ⟨w.heap.size + 1, 0, none⟩ = some (.int .u8 115) := by rw [Lib.cell_of_heap kn2]; rfl
 have a1 : W2.cell? ⟨w.heap.size + 1, 1, none⟩ = some (.int .i64 a) := by rw [Lib.cell_of_heap kn2]; rfl
 have a2 : W2.cell? ⟨w.heap.size + 1, 2, none⟩ = some (.int .u64 z) := by rw [Lib.cell_of_heap kn2]; rfl
 have a3 : W2.cell? ⟨w.heap.size + 1, 3, none⟩ = some (.int .u64 v) := by rw [Lib.cell_of_heap kn2]; rfl
 have a4 : W2.cell? ⟨w.heap.size + 1, 4, none⟩ = some (.bool true) := by rw [Lib.cell_of_heap kn2]; rfl
 have hlt2 : w.heap.size ≤ W2.heap.size := by rw [hW2]; simpa using hK.size
 have hm2 : m < W2.heap.size := by omega
 have hm3 : m < (W2.alloc (.cells #[.int .u8 115, .int .i64 a, .int .u64 z, .int .u64 v, .bool true] 340)).drew.heap.size := by simp; omega
 have n1 : some m ≠ nv.ownBlock := fun e => ne_of_row h.own h.notes (by decide) m e.symm rfl
 have n2 : some (w.heap.size + 1) ≠ nv.ownBlock := fun e => by have := (h.notes.lt _ e.symm).2; omega
 have kr2 : W2.heap[w.heap.size]? = some (.cells #[.int .u8 0, .int .i64 0, .int .u64 0, .int .u64 0, .bool false] 340 (0, 0)) := by
  rw [hW2, hp_drew, hp_other _ _ _ _ (by first | (simp; done) | (simp; omega))]; exact kr
 have b0 : W2.cell? ⟨w.heap.size, 0, none⟩ = some (.int .u8 0) := by rw [Lib.cell_of_heap kr2]; rfl
 have b1 : W2.cell? ⟨w.heap.size, 1, none⟩ = some (.int .i64 0) := by rw [Lib.cell_of_heap kr2]; rfl
 have b2 : W2.cell? ⟨w.heap.size, 2, none⟩ = some (.int .u64 0) := by rw [Lib.cell_of_heap kr2]; rfl
 have b3 : W2.cell? ⟨w.heap.size, 3, none⟩ = some (.int .u64 0) := by rw [Lib.cell_of_heap kr2]; rfl
 have b4 : W2.cell? ⟨w.heap.size, 4, none⟩ = some (.bool false) := by rw [Lib.cell_of_heap kr2]; rfl
 have rf2 : ∀ o, W2.frozen? ⟨w.heap.size, o, none⟩ = false := fun o => Lib.frozen_of_heap kr2 o
 have hr2 : w.heap.size < W2.heap.size := lt_of_heap kr2
 have hr3 : w.heap.size < (W2.alloc (.cells #[.int .u8 115, .int .i64 a, .int .u64 z, .int .u64 v, .bool true] 340)).drew.heap.size := by simp; omega
 have n3 : some w.heap.size ≠ nv.ownBlock := fun e => by have := (h.notes.lt _ e.symm).2; omega
 have mN1 : (m = w.heap.size + 1) = False := eq_false (by omega)
 have hX2 : Kp (fun _ => False) (W.setCell ⟨g, a, none⟩ (.int .u64 v)) W2 := by rw [hW2]; exact (Kp.refl _ _).drew
 have HO := Lib.hid hown
 have HW2 := Lib.hid hW2
 clear hW2 k0 k1 kw kf kf1 s0 s3 sw sf kn3 hown
 have e1 : ∀ (o : Obj), ((W2.alloc o).cell? ⟨m, 1, none⟩) = some nv := fun o => kc o m1
 have e0 : ∀ (o : Obj), ((W2.alloc o).frozen? ⟨m, 1, none⟩) = false := fun o => kf o hm2 mf
 go_region_law (refine step_append_lies _ (by rfl) _ _ _ (by rfl) 0 340 i0 _ 5 40 Tryz.underlying145 hi hz0 hz1 hz2 rfl (by decide) nv σ.notes.length _ (by rfl) (row_alloc HO.out _) ⟨W2.heap.size, 0, none⟩ 1 1 [.int .u8 115, .int .i64 a, .int .u64 z, .int .u64 v, .bool true] (by rfl) (by rfl) (World.news_of_block (heap_alloc_new _ _)) (by simp [Value.oneCell']) (by omega) (by unfold maxLen; omega) (by omega) (by simp) _ rfl ?_; intro g' cap' W3 hown3 hgrow hat hlt; have q1 := hgrow.cell (kc _ m1) n1; have q2 := gf hgrow n1 hm3 (kf _ hm2 mf); have p0 := hgrow.cell (kc _ a0) n2; have p1 := hgrow.cell (kc _ a1) n2; have p2 := hgrow.cell (kc _ a2) n2; have p3 := hgrow.cell (kc _ a3) n2; have p4 := hgrow.cell (kc _ a4) n2; have r0 := hgrow.cell (kc _ b0) n3; have r1 := hgrow.cell (kc _ b1) n3; have r2 := hgrow.cell (kc _ b2) n3; have r3 := hgrow.cell (kc _ b3) n3; have r4 := hgrow.cell (kc _ b4) n3; have rf : ∀ o, W3.frozen? ⟨w.heap.size, o, none⟩ = false := fun o => gf hgrow n3 hr3 (kf _ hr2 (rf2 o)); have rr : W3.heap[w.heap.size]? = some (.cells #[.int .u8 0, .int .i64 0, .int .u64 0, .int .u64 0, .bool false] 340 (0, 0)) := (hgrow.block _ hr3 n3).trans ((hp_alloc _ _ _ hr2).trans kr2))
 all_goals go_wp2
 all_goals refine any_world (p := fun W => bodyPost _ _ _ _ _ W) ?_
 all_goals intro W4 hW4
 all_goals have hX4 := set5 (v0 := .int .u8 115) (v1 := .int .i64 a) (v2 := .int .u64 z) (v3 := .int .u64 v) (v4 := .bool true) ((hp_other W3 ⟨m, 1, none⟩ (.slice (some ⟨g', 0, none⟩) (σ.notes.length + 1) cap') w.heap.size nn).trans rr)
 all_goals have hF := kp5 (W3.setCell ⟨m, 1, none⟩ (.slice (some ⟨g', 0, none⟩) (σ.notes.length + 1) cap')) w.heap.size (.int .u8 115) (.int .i64 a) (.int .u64 z) (.int .u64 v) (.bool true)
 all_goals rw [← hW4] at hX4 hF
 all_goals have d0 : W4.cell? ⟨w.heap.size, 0, none⟩ = some (.int .u8 115) := by rw [Lib.cell_of_heap hX4]; rfl
 all_goals have d1 : W4.cell? ⟨w.heap.size, 1, none⟩ = some (.int .i64 a) := by rw [Lib.cell_of_heap hX4]; rfl
 all_goals have d2 : W4.cell? ⟨w.heap.size, 2, none⟩ = some (.int .u64 z) := by rw [Lib.cell_of_heap hX4]; rfl
 all_goals have d3 : W4.cell? ⟨w.heap.size, 3, none⟩ = some (.int .u64 v) := by rw [Lib.cell_of_heap hX4]; rfl
 all_goals have d4 : W4.cell? ⟨w.heap.size, 4, none⟩ = some (.bool true) := by rw [Lib.cell_of_heap hX4]; rfl
 all_goals clear hW4
 all_goals refine bodyPost_ret (v := .tuple #[.agg #[.int .u8 115, .int .i64 a, .int .u64 z, .int .u64 v, .bool true], .int .i64 0]) (by simp [results, Tryz.results219, go_sem, d0, d1, d2, d3, d4]) rfl ?_
 all_goals exact ⟨rfl, h.noted hK ⟨115, a, z, v, true⟩ a rfl ha hv ((hX2.alloc _).drew) hgrow hown3 hat hr3 hF⟩
theorem access_swap_yes (w : World) (b : MB) (σ : MemS) (h : MemAt w b σ) (a : Nat) (ha : a < σ.words.length) (hfn : σ.notes.length < 1000000000) (v : Int) (hv : 0 ≤ v ∧ v < 18446744073709551616) :
  Calls Tryz.prog 219 #[.pointer (some ⟨b.m, 0, none⟩), .int .i64 a, .iface 351 (.agg #[.int .u64 (σ.get a), .int .u64 v])] w fun e w' => e = .returned (.tuple #[.agg #[.int .u8 99, .int .i64 a, .int .u64 (σ.get a), .int .u64 v, .bool true], .int .i64 0]) ∧ MemPost w b (σ.note ⟨99, a, σ.get a, v, true⟩) w' := by
 have hzr : 0 ≤ σ.get a ∧ σ.get a < 18446744073709551616 := h.getr ha
 have c0 := h.c0
 have c1 := h.c1
 have f1 := h.fm 1
 have hm := h.ltm
 have hg := h.ltg
 have mg := h.mg
 have cw := h.cw ha
 have fg := h.fg a
 have hcap := h.capb
 have hf := h.few
 obtain ⟨m, g, cap, nv⟩ := b
 simp only at c0 c1 f1 hm hg mg cw fg hcap
 generalize hz : σ.get a = z at *
 have HZ := Lib.hid hz
 clear hz
 have ha' : (a : Int) < (σ.words.length : Int) := by omega
 have mg0 : (m = g) = False := eq_false mg
 have gm0 : (g = m) = False := eq_false (Ne.symm mg)
 have mN : (m = w.heap.size) = False := eq_false (by omega)
 have gN : (g = w.heap.size) = False := eq_false (by omega)
 have Nm : (w.heap.size = m) = False := eq_false (by omega)
 have Ng : (w.heap.size = g) = False := eq_false (by omega)
 have hm1 : m < w.heap.size + 1 := by omega
 have nn : w.heap.size ≠ m := by omega
 have hg1 : g < w.heap.size + 1 := by omega
 obtain ⟨ii_load, hii_load, hiz_load⟩ := info_zero info_load
 have no_load : ∀ (v : Value) (xT : TypeId) (w : World), (Instr.typeAssert (.iface 351 v) xT 344 true).run Tryz.prog w = .ok (.tuple #[.agg #[], .bool false]) w := fun v xT w => assert_other _ _ _ _ Tryz.underlying344 (by decide) hii_load hiz_load
 obtain ⟨ii_store, hii_store, hiz_store⟩ := info_zero info_store
 have no_store : ∀ (v : Value) (xT : TypeId) (w : World), (Instr.typeAssert (.iface 351 v) xT 349 true).run Tryz.prog w = .ok (.tuple #[.agg #[.int .u64 0], .bool false]) w := fun v xT w => assert_other _ _ _ _ Tryz.underlying349 (by decide) hii_store hiz_store
 have as_swap : ∀ (v : Value) (xT : TypeId) (w : World), (Instr.typeAssert (.iface 351 v) xT 351 true).run Tryz.prog w = .ok (.tuple #[v, .bool true]) w := fun v xT w => assert_struct _ _ _ Tryz.underlying351
 go_enter Tryz.func219, Tryz.ntmps219
 go_wp2
 go_region_held3 (fun w' => w'.cell? ⟨m, 0, none⟩ = some (.slice (some ⟨g, 0, none⟩) σ.words.length cap) ∧ w'.cell? ⟨g, a, none⟩ = some (.int .u64 z))
  (exact ⟨keep_cell (by go_grown) c0, keep_cell (by go_grown) cw⟩)
  (fail)
 go_wp2
 refine wp_world ?_
 intro V hV
 have hKV : Kp (fun _ => False) w V := by rw [hV]; exact Kp.of_below (by go_grown) _
 have vn : V.heap[w.heap.size + 1]? = some (.cells #[.int .u8 0, .int .i64 a, .int .u64 z, .int .u64 z, .bool true] 340 (0, 0)) := by
  rw [hV]
  simp (disch := first | omega | (simp; done) | (simp; omega)) only [hp_drew, hp_alloc, hp_other, hp_new]
 have vr : V.heap[w.heap.size]? = some (.cells #[.int .u8 0, .int .i64 0, .int .u64 0, .int .u64 0, .bool false] 340 (0, 0)) := by
  rw [hV]
  simp (disch := first | omega | (simp; done) | (simp; omega)) only [hp_drew, hp_alloc, hp_other, hp_new]
 have vxh : V.heap[w.heap.size + 1 + 1]? = some (.cells #[.int .u64 z, .int .u64 v] 351 (0, 0)) := by
  rw [hV]
  simp (disch := first | omega | (simp; done) | (simp; omega)) only [hp_drew, hp_alloc, hp_other, hp_new]
 have vx : V.cell? ⟨w.heap.size + 1 + 1, 0, none⟩ = some (.int .u64 z) := by rw [Lib.cell_of_heap vxh]; rfl
 clear hV
 have v0 : V.cell? ⟨w.heap.size + 1, 0, none⟩ = some (.int .u8 0) := by rw [Lib.cell_of_heap vn]; rfl
 have v2 : V.cell? ⟨w.heap.size + 1, 2, none⟩ = some (.int .u64 z) := by rw [Lib.cell_of_heap vn]; rfl
 have v3 : V.cell? ⟨w.heap.size + 1, 3, none⟩ = some (.int .u64 z) := by rw [Lib.cell_of_heap vn]; rfl
 have v4 : V.cell? ⟨w.heap.size + 1, 4, none⟩ = some (.bool true) := by rw [Lib.cell_of_heap vn]; rfl
 have vf : ∀ o, V.frozen? ⟨w.heap.size + 1, o, none⟩ = false := fun o => Lib.frozen_of_heap vn o
 have V1f : ∀ o, (V.setCell ⟨w.heap.size + 1, 0, none⟩ (.int .u8 99)).frozen? ⟨w.heap.size + 1, o, none⟩ = false := fun o => (World.frozen?_setCell _ _ _ _).trans (vf o)
 have V1x : (V.setCell ⟨w.heap.size + 1, 0, none⟩ (.int .u8 99)).cell? ⟨w.heap.size + 1 + 1, 0, none⟩ = some (.int .u64 z) := (hs_other _ _ _ _ (by simp)).trans vx
 have V10 : (V.setCell ⟨w.heap.size + 1, 0, none⟩ (.int .u8 99)).cell? ⟨w.heap.size + 1, 0, none⟩ = some (.int .u8 99) := World.cell?_setCell_same _ _ _ v0
 have V12 : (V.setCell ⟨w.heap.size + 1, 0, none⟩ (.int .u8 99)).cell? ⟨w.heap.size + 1, 2, none⟩ = some (.int .u64 z) := (hs_other _ _ _ _ (by simp)).trans v2
 have V14 : (V.setCell ⟨w.heap.size + 1, 0, none⟩ (.int .u8 99)).cell? ⟨w.heap.size + 1, 4, none⟩ = some (.bool true) := (hs_other _ _ _ _ (by simp)).trans v4
 have V2f : ∀ o, ((V.setCell ⟨w.heap.size + 1, 0, none⟩ (.int .u8 99)).setCell ⟨w.heap.size + 1, 4, none⟩ (.bool true)).frozen? ⟨w.heap.size + 1, o, none⟩ = false := fun o => (World.frozen?_setCell _ _ _ _).trans (V1f o)
 have V2x : ((V.setCell ⟨w.heap.size + 1, 0, none⟩ (.int .u8 99)).setCell ⟨w.heap.size + 1, 4, none⟩ (.bool true)).cell? ⟨w.heap.size + 1 + 1, 0, none⟩ = some (.int .u64 z) := (hs_other _ _ _ _ (by simp)).trans V1x
 have V20 : ((V.setCell ⟨w.heap.size + 1, 0, none⟩ (.int .u8 99)).setCell ⟨w.heap.size + 1, 4, none⟩ (.bool true)).cell? ⟨w.heap.size + 1, 0, none⟩ = some (.int .u8 99) := (hs_other _ _ _ _ (by simp)).trans V10
 have V22 : ((V.setCell ⟨w.heap.size + 1, 0, none⟩ (.int .u8 99)).setCell ⟨w.heap.size + 1, 4, none⟩ (.bool true)).cell? ⟨w.heap.size + 1, 2, none⟩ = some (.int .u64 z) := (hs_other _ _ _ _ (by simp)).trans V12
 have V24 : ((V.setCell ⟨w.heap.size + 1, 0, none⟩ (.int .u8 99)).setCell ⟨w.heap.size + 1, 4, none⟩ (.bool true)).cell? ⟨w.heap.size + 1, 4, none⟩ = some (.bool true) := World.cell?_setCell_same _ _ _ V14
 go_region_held3 (fun w' => w'.cell? ⟨w.heap.size + 1 + 1, 0, none⟩ = some (.int .u64 z) ∧ w'.cell? ⟨w.heap.size + 1, 2, none⟩ = some (.int .u64 z) ∧ (w'.cell? ⟨w.heap.size + 1, 0, none⟩).isSome = true ∧ (w'.cell? ⟨w.heap.size + 1, 4, none⟩).isSome = true ∧ w'.frozen? ⟨w.heap.size + 1, 0, none⟩ = false ∧ w'.frozen? ⟨w.heap.size + 1, 4, none⟩ = false)
  (first | exact ⟨vx, v2, isSome_of v0, isSome_of v4, vf 0, vf 4⟩ | exact ⟨V1x, V12, isSome_of V10, isSome_of V14, V1f 0, V1f 4⟩ | exact ⟨V2x, V22, isSome_of V20, isSome_of V24, V2f 0, V2f 4⟩)
  (fail)
 clear V1f V1x V10 V12 V14 V2f V2x V20 V22 V24 v0 v2 v3 v4 vf
 refine any_world (p := fun W => Exit.then _ _ _ _ W) ?_
 intro U hU
 have un : U.heap[w.heap.size + 1]? = some (.cells #[.int .u8 99, .int .i64 a, .int .u64 z, .int .u64 z, .bool true] 340 (0, 0)) := by
  rw [hU, hp_drew]; exact hp_same _ _ 4 (.bool true) (hp_same _ _ 0 (.int .u8 99) vn)
 have ur : U.heap[w.heap.size]? = some (.cells #[.int .u8 0, .int .i64 0, .int .u64 0, .int .u64 0, .bool false] 340 (0, 0)) := by
  rw [hU, hp_drew, hp_other _ _ _ _ (by simp), hp_other _ _ _ _ (by simp)]; exact vr
 have uxh : U.heap[w.heap.size + 1 + 1]? = some (.cells #[.int .u64 z, .int .u64 v] 351 (0, 0)) := by
  rw [hU, hp_drew, hp_other _ _ _ _ (by simp), hp_other _ _ _ _ (by simp)]; exact vxh
 have hKU : Kp (fun _ => False) w U := by rw [hU]; exact (((hKV.st (.inr (by omega)) 0 _).st (.inr (by omega)) 4 _).drew)
 clear hU
 have u4 : U.cell? ⟨w.heap.size + 1, 4, none⟩ = some (.bool true) := by rw [Lib.cell_of_heap un]; rfl
 have u3 : U.cell? ⟨w.heap.size + 1, 3, none⟩ = some (.int .u64 z) := by rw [Lib.cell_of_heap un]; rfl
 have ux1 : U.cell? ⟨w.heap.size + 1 + 1, 1, none⟩ = some (.int .u64 v) := by rw [Lib.cell_of_heap uxh]; rfl
 have uf : U.frozen? ⟨w.heap.size + 1, 3, none⟩ = false := Lib.frozen_of_heap un 3
 go_wp2
 refine wp_world ?_
 intro W hW
 have hK : Kp (fun _ => False) w W := by rw [hW]; exact (hKU.st (.inr (by omega)) 3 _)
 have kn : W.heap[w.heap.size + 1]? = some (.cells #[.int .u8 99, .int .i64 a, .int .u64 z, .int .u64 v, .bool true] 340 (0, 0)) := by
  rw [hW]
  exact hp_same _ _ 3 (.int .u64 v) un
 have kr : W.heap[w.heap.size]? = some (.cells #[.int .u8 0, .int .i64 0, .int .u64 0, .int .u64 0, .bool false] 340 (0, 0)) := by
  rw [hW]
  rw [hp_other _ _ _ _ (by simp)]; exact ur
 have k0 : W.cell? ⟨m, 0, none⟩ = some (.slice (some ⟨g, 0, none⟩) σ.words.length cap) := hK.cell c0 (fun e => e)
 have k1 : W.cell? ⟨m, 1, none⟩ = some nv := hK.cell c1 (fun e => e)
 have kw : W.cell? ⟨g, a, none⟩ = some (.int .u64 z) := hK.cell cw (fun e => e)
 have kf : W.frozen? ⟨g, a, none⟩ = false := hK.froz hg (fun e => e) fg
 have kf1 : W.frozen? ⟨m, 1, none⟩ = false := hK.froz hm (fun e => e) f1
 have kn3 : W.cell? ⟨w.heap.size + 1, 3, none⟩ = some (.int .u64 v) := by rw [Lib.cell_of_heap kn]; rfl
 clear hW c0 c1 f1 cw fg
 have s0 : (W.setCell ⟨g, a, none⟩ (.int .u64 v)).cell? ⟨m, 0, none⟩ = some (.slice (some ⟨g, 0, none⟩) σ.words.length cap) := (hs_other _ _ _ _ (by simp [gm0])).trans k0
 have s3 : (W.setCell ⟨g, a, none⟩ (.int .u64 v)).cell? ⟨w.heap.size + 1, 3, none⟩ = some (.int .u64 v) := (hs_other _ _ _ _ (by first | (simp; done) | (simp; omega))).trans kn3
 have sf : (W.setCell ⟨g, a, none⟩ (.int .u64 v)).frozen? ⟨g, a, none⟩ = false := (World.frozen?_setCell _ _ _ _).trans kf
 have sw : (W.setCell ⟨g, a, none⟩ (.int .u64 v)).cell? ⟨g, a, none⟩ = some (.int .u64 v) := World.cell?_setCell_same _ _ _ kw
 go_region_held3 (fun w' => w'.cell? ⟨m, 0, none⟩ = some (.slice (some ⟨g, 0, none⟩) σ.words.length cap) ∧ w'.cell? ⟨w.heap.size + 1, 3, none⟩ = some (.int .u64 v) ∧ (w'.cell? ⟨g, a, none⟩).isSome = true ∧ w'.frozen? ⟨g, a, none⟩ = false)
  (first | exact ⟨k0, kn3, isSome_of kw, kf⟩ | exact ⟨s0, s3, isSome_of sw, sf⟩)
  (fail)
 go_wp2
 refine wp_world ?_
 intro W2 hW2
 obtain ⟨i0, hi, hz0, hz1, hz2⟩ := info_parts infoAcc
 have hown : W2.ownsRow 0 340 5 nv σ.notes.length (σ.notes.flatMap accV) := by
  rw [hW2]
  refine row_drew (row_setCell (hK.row h.notes (fun _ _ h => h)) _ (fun k hk => ?_) _)
  exact fun e => ne_of_row (by exact h.row.choose_spec.1) h.notes (by decide) k hk e
 have m1 : W2.cell? ⟨m, 1, none⟩ = some nv := by rw [hW2]; exact (hs_other _ _ _ _ (by simp [gm0])).trans k1
 have mf : W2.frozen? ⟨m, 1, none⟩ = false := by rw [hW2]; exact (World.frozen?_setCell _ _ _ _).trans kf1
 have kn2 : W2.heap[w.heap.size + 1]? = some (.cells #[.int .u8 99, .int .i64 a, .int .u64 z, .int .u64 v, .bool true] 340 (0, 0)) := by
  rw [hW2, hp_drew, hp_other _ _ _ _ (by first | (simp; done) | (simp; omega))]; exact kn
 have a0 : W2.cell? ⟨w.heap.size + 1, 0, none⟩ = some (.int .u8 99) := by rw [Lib.cell_of_heap kn2]; rfl
 have a1 : W2.cell? ⟨w.heap.size + 1, 1, none⟩ = some (.int .i64 a) := by rw [Lib.cell_of_heap kn2]; rfl
 have a2 : W2.cell? ⟨w.heap.size + 1, 2, none⟩ = some (.int .u64 z) := by rw [Lib.cell_of_heap kn2]; rfl
 have a3 : W2.cell? ⟨w.heap.size + 1, 3, none⟩ = some (.int .u64 v) := by rw [Lib.cell_of_heap kn2]; rfl
 have a4 : W2.cell? ⟨w.heap.size + 1, 4, none⟩ = some (.bool true) := by rw [Lib.cell_of_heap kn2]; rfl
 have hlt2 : w.heap.size ≤ W2.heap.size := by rw [hW2]; simpa using hK.size
 have hm2 : m < W2.heap.size := by omega
 have hm3 : m < (W2.alloc (.cells #[.int .u8 99, .int .i64 a, .int .u64 z, .int .u64 v, .bool true] 340)).drew.heap.size := by simp; omega
 have n1 : some m ≠ nv.ownBlock := fun e => ne_of_row h.own h.notes (by decide) m e.symm rfl
 have n2 : some (w.heap.size + 1) ≠ nv.ownBlock := fun e => by have := (h.notes.lt _ e.symm).2; omega
 have kr2 : W2.heap[w.heap.size]? = some (.cells #[.int .u8 0, .int .i64 0, .int .u64 0, .int .u64 0, .bool false] 340 (0, 0)) := by
  rw [hW2, hp_drew, hp_other _ _ _ _ (by first | (simp; done) | (simp; omega))]; exact kr
 have b0 : W2.cell? ⟨w.heap.size, 0, none⟩ = some (.int .u8 0) := by rw [Lib.cell_of_heap kr2]; rfl
 have b1 : W2.cell? ⟨w.heap.size, 1, none⟩ = some (.int .i64 0) := by rw [Lib.cell_of_heap kr2]; rfl
 have b2 : W2.cell? ⟨w.heap.size, 2, none⟩ = some (.int .u64 0) := by rw [Lib.cell_of_heap kr2]; rfl
 have b3 : W2.cell? ⟨w.heap.size, 3, none⟩ = some (.int .u64 0) := by rw [Lib.cell_of_heap kr2]; rfl
 have b4 : W2.cell? ⟨w.heap.size, 4, none⟩ = some (.bool false) := by rw [Lib.cell_of_heap kr2]; rfl
 have rf2 : ∀ o, W2.frozen? ⟨w.heap.size, o, none⟩ = false := fun o => Lib.frozen_of_heap kr2 o
 have hr2 : w.heap.size < W2.heap.size := lt_of_heap kr2
 have hr3 : w.heap.size < (W2.alloc (.cells #[.int .u8 99, .int .i64 a, .int .u64 z, .int .u64 v, .bool true] 340)).drew.heap.size := by simp; omega
 have n3 : some w.heap.size ≠ nv.ownBlock := fun e => by have := (h.notes.lt _ e.symm).2; omega
 have mN1 : (m = w.heap.size + 1) = False := eq_false (by omega)
 have hX2 : Kp (fun _ => False) (W.setCell ⟨g, a, none⟩ (.int .u64 v)) W2 := by rw [hW2]; exact (Kp.refl _ _).drew
 have HO := Lib.hid hown
 have HW2 := Lib.hid hW2
 clear hW2 k0 k1 kw kf kf1 s0 s3 sw sf kn3 hown
 have e1 : ∀ (o : Obj), ((W2.alloc o).cell? ⟨m, 1, none⟩) = some nv := fun o => kc o m1
 have e0 : ∀ (o : Obj), ((W2.alloc o).frozen? ⟨m, 1, none⟩) = false := fun o => kf o hm2 mf
 go_region_law (refine step_append_lies _ (by rfl) _ _ _ (by rfl) 0 340 i0 _ 5 40 Tryz.underlying145 hi hz0 hz1 hz2 rfl (by decide) nv σ.notes.length _ (by rfl) (row_alloc HO.out _) ⟨W2.heap.size, 0, none⟩ 1 1 [.int .u8 99, .int .i64 a, .int .u64 z, .int .u64 v, .bool true] (by rfl) (by rfl) (World.news_of_block (heap_alloc_new _ _)) (by simp [Value.oneCell']) (by omega) (by unfold maxLen; omega) (by omega) (by simp) _ rfl ?_; intro g' cap' W3 hown3 hgrow hat hlt; have q1 := hgrow.cell (kc _ m1) n1; have q2 := gf hgrow n1 hm3 (kf _ hm2 mf); have p0 := hgrow.cell (kc _ a0) n2; have p1 := hgrow.cell (kc _ a1) n2; have p2 := hgrow.cell (kc _ a2) n2; have p3 := hgrow.cell (kc _ a3) n2; have p4 := hgrow.cell (kc _ a4) n2; have r0 := hgrow.cell (kc _ b0) n3; have r1 := hgrow.cell (kc _ b1) n3; have r2 := hgrow.cell (kc _ b2) n3; have r3 := hgrow.cell (kc _ b3) n3; have r4 := hgrow.cell (kc _ b4) n3; have rf : ∀ o, W3.frozen? ⟨w.heap.size, o, none⟩ = false := fun o => gf hgrow n3 hr3 (kf _ hr2 (rf2 o)); have rr : W3.heap[w.heap.size]? = some (.cells #[.int .u8 0, .int .i64 0, .int .u64 0, .int .u64 0, .bool false] 340 (0, 0)) := (hgrow.block _ hr3 n3).trans ((hp_alloc _ _ _ hr2).trans kr2))
 all_goals go_wp2
 all_goals refine any_world (p := fun W => bodyPost _ _ _ _ _ W) ?_
 all_goals intro W4 hW4
 all_goals have hX4 := set5 (v0 := .int .u8 99) (v1 := .int .i64 a) (v2 := .int .u64 z) (v3 := .int .u64 v) (v4 := .bool true) ((hp_other W3 ⟨m, 1, none⟩ (.slice (some ⟨g', 0, none⟩) (σ.notes.length + 1) cap') w.heap.size nn).trans rr)
 all_goals have hF := kp5 (W3.setCell ⟨m, 1, none⟩ (.slice (some ⟨g', 0, none⟩) (σ.notes.length + 1) cap')) w.heap.size (.int .u8 99) (.int .i64 a) (.int .u64 z) (.int .u64 v) (.bool true)
 all_goals rw [← hW4] at hX4 hF
 all_goals have d0 : W4.cell? ⟨w.heap.size, 0, none⟩ = some (.int .u8 99) := by rw [Lib.cell_of_heap hX4]; rfl
 all_goals have d1 : W4.cell? ⟨w.heap.size, 1, none⟩ = some (.int .i64 a) := by rw [Lib.cell_of_heap hX4]; rfl
 all_goals have d2 : W4.cell? ⟨w.heap.size, 2, none⟩ = some (.int .u64 z) := by rw [Lib.cell_of_heap hX4]; rfl
 all_goals have d3 : W4.cell? ⟨w.heap.size, 3, none⟩ = some (.int .u64 v) := by rw [Lib.cell_of_heap hX4]; rfl
 all_goals have d4 : W4.cell? ⟨w.heap.size, 4, none⟩ = some (.bool true) := by rw [Lib.cell_of_heap hX4]; rfl
 all_goals clear hW4
 all_goals refine bodyPost_ret (v := .tuple #[.agg #[.int .u8 99, .int .i64 a, .int .u64 z, .int .u64 v, .bool true], .int .i64 0]) (by simp [results, Tryz.results219, go_sem, d0, d1, d2, d3, d4]) rfl ?_
 all_goals exact ⟨rfl, h.noted hK ⟨99, a, z, v, true⟩ a rfl ha hv ((hX2.alloc _).drew) hgrow hown3 hat hr3 hF⟩
theorem access_swap_no (w : World) (b : MB) (σ : MemS) (h : MemAt w b σ) (a : Nat) (ha : a < σ.words.length) (hfn : σ.notes.length < 1000000000) (old v : Int) (ho : σ.get a ≠ old) :
  Calls Tryz.prog 219 #[.pointer (some ⟨b.m, 0, none⟩), .int .i64 a, .iface 351 (.agg #[.int .u64 old, .int .u64 v])] w fun e w' => e = .returned (.tuple #[.agg #[.int .u8 99, .int .i64 a, .int .u64 (σ.get a), .int .u64 (σ.get a), .bool false], .int .i64 0]) ∧ MemPost w b (σ.note ⟨99, a, σ.get a, σ.get a, false⟩) w' := by
 have hzr : 0 ≤ σ.get a ∧ σ.get a < 18446744073709551616 := h.getr ha
 have ho1 : (σ.get a == old) = false := beq_eq_false_iff_ne.2 ho
 clear ho
 have c0 := h.c0
 have c1 := h.c1
 have f1 := h.fm 1
 have hm := h.ltm
 have hg := h.ltg
 have mg := h.mg
 have cw := h.cw ha
 have fg := h.fg a
 have hcap := h.capb
 have hf := h.few
 obtain ⟨m, g, cap, nv⟩ := b
 simp only at c0 c1 f1 hm hg mg cw fg hcap
 generalize hz : σ.get a = z at *
 have HZ := Lib.hid hz
 clear hz
 have ha' : (a : Int) < (σ.words.length : Int) := by omega
 have mg0 : (m = g) = False := eq_false mg
 have gm0 : (g = m) = False := eq_false (Ne.symm mg)
 have mN : (m = w.heap.size) = False := eq_false (by omega)
 have gN : (g = w.heap.size) = False := eq_false (by omega)
 have Nm : (w.heap.size = m) = False := eq_false (by omega)
 have Ng : (w.heap.size = g) = False := eq_false (by omega)
 have hm1 : m < w.heap.size + 1 := by omega
 have nn : w.heap.size ≠ m := by omega
 have hg1 : g < w.heap.size + 1 := by omega
 obtain ⟨ii_load, hii_load, hiz_load⟩ := info_zero info_load
 have no_load : ∀ (v : Value) (xT : TypeId) (w : World), (Instr.typeAssert (.iface 351 v) xT 344 true).run Tryz.prog w = .ok (.tuple #[.agg #[], .bool false]) w := fun v xT w => assert_other _ _ _ _ Tryz.underlying344 (by decide) hii_load hiz_load
 obtain ⟨ii_store, hii_store, hiz_store⟩ := info_zero info_store
 have no_store : ∀ (v : Value) (xT : TypeId) (w : World), (Instr.typeAssert (.iface 351 v) xT 349 true).run Tryz.prog w = .ok (.tuple #[.agg #[.int .u64 0], .bool false]) w := fun v xT w => assert_other _ _ _ _ Tryz.underlying349 (by decide) hii_store hiz_store
 have as_swap : ∀ (v : Value) (xT : TypeId) (w : World), (Instr.typeAssert (.iface 351 v) xT 351 true).run Tryz.prog w = .ok (.tuple #[v, .bool true]) w := fun v xT w => assert_struct _ _ _ Tryz.underlying351
 go_enter Tryz.func219, Tryz.ntmps219
 go_wp2
 go_region_held3 (fun w' => w'.cell? ⟨m, 0, none⟩ = some (.slice (some ⟨g, 0, none⟩) σ.words.length cap) ∧ w'.cell? ⟨g, a, none⟩ = some (.int .u64 z))
  (exact ⟨keep_cell (by go_grown) c0, keep_cell (by go_grown) cw⟩)
  (fail)
 go_wp2
 refine wp_world ?_
 intro V hV
 have hKV : Kp (fun _ => False) w V := by rw [hV]; exact Kp.of_below (by go_grown) _
 have vn : V.heap[w.heap.size + 1]? = some (.cells #[.int .u8 0, .int .i64 a, .int .u64 z, .int .u64 z, .bool true] 340 (0, 0)) := by
  rw [hV]
  simp (disch := first | omega | (simp; done) | (simp; omega)) only [hp_drew, hp_alloc, hp_other, hp_new]
 have vr : V.heap[w.heap.size]? = some (.cells #[.int .u8 0, .int .i64 0, .int .u64 0, .int .u64 0, .bool false] 340 (0, 0)) := by
  rw [hV]
  simp (disch := first | omega | (simp; done) | (simp; omega)) only [hp_drew, hp_alloc, hp_other, hp_new]
 have vxh : V.heap[w.heap.size + 1 + 1]? = some (.cells #[.int .u64 old, .int .u64 v] 351 (0, 0)) := by
  rw [hV]
  simp (disch := first | omega | (simp; done) | (simp; omega)) only [hp_drew, hp_alloc, hp_other, hp_new]
 have vx : V.cell? ⟨w.heap.size + 1 + 1, 0, none⟩ = some (.int .u64 old) := by rw [Lib.cell_of_heap vxh]; rfl
 clear hV
 have v0 : V.cell? ⟨w.heap.size + 1, 0, none⟩ = some (.int .u8 0) := by rw [Lib.cell_of_heap vn]; rfl
 have v2 : V.cell? ⟨w.heap.size + 1, 2, none⟩ = some (.int .u64 z) := by rw [Lib.cell_of_heap vn]; rfl
 have v3 : V.cell? ⟨w.heap.size + 1, 3, none⟩ = some (.int .u64 z) := by rw [Lib.cell_of_heap vn]; rfl
 have v4 : V.cell? ⟨w.heap.size + 1, 4, none⟩ = some (.bool true) := by rw [Lib.cell_of_heap vn]; rfl
 have vf : ∀ o, V.frozen? ⟨w.heap.size + 1, o, none⟩ = false := fun o => Lib.frozen_of_heap vn o
 have V1f : ∀ o, (V.setCell ⟨w.heap.size + 1, 0, none⟩ (.int .u8 99)).frozen? ⟨w.heap.size + 1, o, none⟩ = false := fun o => (World.frozen?_setCell _ _ _ _).trans (vf o)
 have V1x : (V.setCell ⟨w.heap.size + 1, 0, none⟩ (.int .u8 99)).cell? ⟨w.heap.size + 1 + 1, 0, none⟩ = some (.int .u64 old) := (hs_other _ _ _ _ (by simp)).trans vx
 have V10 : (V.setCell ⟨w.heap.size + 1, 0, none⟩ (.int .u8 99)).cell? ⟨w.heap.size + 1, 0, none⟩ = some (.int .u8 99) := World.cell?_setCell_same _ _ _ v0
 have V12 : (V.setCell ⟨w.heap.size + 1, 0, none⟩ (.int .u8 99)).cell? ⟨w.heap.size + 1, 2, none⟩ = some (.int .u64 z) := (hs_other _ _ _ _ (by simp)).trans v2
 have V14 : (V.setCell ⟨w.heap.size + 1, 0, none⟩ (.int .u8 99)).cell? ⟨w.heap.size + 1, 4, none⟩ = some (.bool true) := (hs_other _ _ _ _ (by simp)).trans v4
 have V2f : ∀ o, ((V.setCell ⟨w.heap.size + 1, 0, none⟩ (.int .u8 99)).setCell ⟨w.heap.size + 1, 4, none⟩ (.bool false)).frozen? ⟨w.heap.size + 1, o, none⟩ = false := fun o => (World.frozen?_setCell _ _ _ _).trans (V1f o)
 have V2x : ((V.setCell ⟨w.heap.size + 1, 0, none⟩ (.int .u8 99)).setCell ⟨w.heap.size + 1, 4, none⟩ (.bool false)).cell? ⟨w.heap.size + 1 + 1, 0, none⟩ = some (.int .u64 old) := (hs_other _ _ _ _ (by simp)).trans V1x
 have V20 : ((V.setCell ⟨w.heap.size + 1, 0, none⟩ (.int .u8 99)).setCell ⟨w.heap.size + 1, 4, none⟩ (.bool false)).cell? ⟨w.heap.size + 1, 0, none⟩ = some (.int .u8 99) := (hs_other _ _ _ _ (by simp)).trans V10
 have V22 : ((V.setCell ⟨w.heap.size + 1, 0, none⟩ (.int .u8 99)).setCell ⟨w.heap.size + 1, 4, none⟩ (.bool false)).cell? ⟨w.heap.size + 1, 2, none⟩ = some (.int .u64 z) := (hs_other _ _ _ _ (by simp)).trans V12
 have V24 : ((V.setCell ⟨w.heap.size + 1, 0, none⟩ (.int .u8 99)).setCell ⟨w.heap.size + 1, 4, none⟩ (.bool false)).cell? ⟨w.heap.size + 1, 4, none⟩ = some (.bool false) := World.cell?_setCell_same _ _ _ V14
 go_region_held3 (fun w' => w'.cell? ⟨w.heap.size + 1 + 1, 0, none⟩ = some (.int .u64 old) ∧ w'.cell? ⟨w.heap.size + 1, 2, none⟩ = some (.int .u64 z) ∧ (w'.cell? ⟨w.heap.size + 1, 0, none⟩).isSome = true ∧ (w'.cell? ⟨w.heap.size + 1, 4, none⟩).isSome = true ∧ w'.frozen? ⟨w.heap.size + 1, 0, none⟩ = false ∧ w'.frozen? ⟨w.heap.size + 1, 4, none⟩ = false)
  (first | exact ⟨vx, v2, isSome_of v0, isSome_of v4, vf 0, vf 4⟩ | exact ⟨V1x, V12, isSome_of V10, isSome_of V14, V1f 0, V1f 4⟩ | exact ⟨V2x, V22, isSome_of V20, isSome_of V24, V2f 0, V2f 4⟩)
  (fail)
 clear V1f V1x V10 V12 V14 V2f V2x V20 V22 V24 v0 v2 v3 v4 vf
 refine any_world (p := fun W => Exit.then _ _ _ _ W) ?_
 intro U hU
 have un : U.heap[w.heap.size + 1]? = some (.cells #[.int .u8 99, .int .i64 a, .int .u64 z, .int .u64 z, .bool false] 340 (0, 0)) := by
  rw [hU, hp_drew]; exact hp_same _ _ 4 (.bool false) (hp_same _ _ 0 (.int .u8 99) vn)
 have ur : U.heap[w.heap.size]? = some (.cells #[.int .u8 0, .int .i64 0, .int .u64 0, .int .u64 0, .bool false] 340 (0, 0)) := by
  rw [hU, hp_drew, hp_other _ _ _ _ (by simp), hp_other _ _ _ _ (by simp)]; exact vr
 have uxh : U.heap[w.heap.size + 1 + 1]? = some (.cells #[.int .u64 old, .int .u64 v] 351 (0, 0)) := by
  rw [hU, hp_drew, hp_other _ _ _ _ (by simp), hp_other _ _ _ _ (by simp)]; exact vxh
 have hKU : Kp (fun _ => False) w U := by rw [hU]; exact (((hKV.st (.inr (by omega)) 0 _).st (.inr (by omega)) 4 _).drew)
 clear hU
 have u4 : U.cell? ⟨w.heap.size + 1, 4, none⟩ = some (.bool false) := by rw [Lib.cell_of_heap un]; rfl
 go_wp2
 refine wp_world ?_
 intro W hW
 have hK : Kp (fun _ => False) w W := by rw [hW]; exact hKU
 have kn : W.heap[w.heap.size + 1]? = some (.cells #[.int .u8 99, .int .i64 a, .int .u64 z, .int .u64 z, .bool false] 340 (0, 0)) := by
  rw [hW]
  exact un
 have kr : W.heap[w.heap.size]? = some (.cells #[.int .u8 0, .int .i64 0, .int .u64 0, .int .u64 0, .bool false] 340 (0, 0)) := by
  rw [hW]
  exact ur
 have k0 : W.cell? ⟨m, 0, none⟩ = some (.slice (some ⟨g, 0, none⟩) σ.words.length cap) := hK.cell c0 (fun e => e)
 have k1 : W.cell? ⟨m, 1, none⟩ = some nv := hK.cell c1 (fun e => e)
 have kw : W.cell? ⟨g, a, none⟩ = some (.int .u64 z) := hK.cell cw (fun e => e)
 have kf : W.frozen? ⟨g, a, none⟩ = false := hK.froz hg (fun e => e) fg
 have kf1 : W.frozen? ⟨m, 1, none⟩ = false := hK.froz hm (fun e => e) f1
 have kn3 : W.cell? ⟨w.heap.size + 1, 3, none⟩ = some (.int .u64 z) := by rw [Lib.cell_of_heap kn]; rfl
 clear hW c0 c1 f1 cw fg
 have s0 : (W.setCell ⟨g, a, none⟩ (.int .u64 z)).cell? ⟨m, 0, none⟩ = some (.slice (some ⟨g, 0, none⟩) σ.words.length cap) := (hs_other _ _ _ _ (by simp [gm0])).trans k0
 have s3 : (W.setCell ⟨g, a, none⟩ (.int .u64 z)).cell? ⟨w.heap.size + 1, 3, none⟩ = some (.int .u64 z) := (hs_other _ _ _ _ (by first | (simp; done) | (simp; omega))).trans kn3
 have sf : (W.setCell ⟨g, a, none⟩ (.int .u64 z)).frozen? ⟨g, a, none⟩ = false := (World.frozen?_setCell _ _ _ _).trans kf
 have sw : (W.setCell ⟨g, a, none⟩ (.int .u64 z)).cell? ⟨g, a, none⟩ = some (.int .u64 z) := World.cell?_setCell_same _ _ _ kw
 go_region_held3 (fun w' => w'.cell? ⟨m, 0, none⟩ = some (.slice (some ⟨g, 0, none⟩) σ.words.length cap) ∧ w'.cell? ⟨w.heap.size + 1, 3, none⟩ = some (.int .u64 z) ∧ (w'.cell? ⟨g, a, none⟩).isSome = true ∧ w'.frozen? ⟨g, a, none⟩ = false)
  (first | exact ⟨k0, kn3, isSome_of kw, kf⟩ | exact ⟨s0, s3, isSome_of sw, sf⟩)
  (fail)
 go_wp2
 refine wp_world ?_
 intro W2 hW2
 obtain ⟨i0, hi, hz0, hz1, hz2⟩ := info_parts infoAcc
 have hown : W2.ownsRow 0 340 5 nv σ.notes.length (σ.notes.flatMap accV) := by
  rw [hW2]
  refine row_drew (row_setCell (hK.row h.notes (fun _ _ h => h)) _ (fun k hk => ?_) _)
  exact fun e => ne_of_row (by exact h.row.choose_spec.1) h.notes (by decide) k hk e
 have m1 : W2.cell? ⟨m, 1, none⟩ = some nv := by rw [hW2]; exact (hs_other _ _ _ _ (by simp [gm0])).trans k1
 have mf : W2.frozen? ⟨m, 1, none⟩ = false := by rw [hW2]; exact (World.frozen?_setCell _ _ _ _).trans kf1
 have kn2 : W2.heap[w.heap.size + 1]? = some (.cells #[.int .u8 99, .int .i64 a, .int .u64 z, .int .u64 z, .bool false] 340 (0, 0)) := by
  rw [hW2, hp_drew, hp_other _ _ _ _ (by first | (simp; done) | (simp; omega))]; exact kn
 have a0 : W2.cell? ⟨w.heap.size + 1, 0, none⟩ = some (.int .u8 99) := by rw [Lib.cell_of_heap kn2]; rfl
 have a1 : W2.cell? ⟨w.heap.size + 1, 1, none⟩ = some (.int .i64 a) := by rw [Lib.cell_of_heap kn2]; rfl
 have a2 : W2.cell? ⟨w.heap.size + 1, 2, none⟩ = some (.int .u64 z) := by rw [Lib.cell_of_heap kn2]; rfl
 have a3 : W2.cell? ⟨w.heap.size + 1, 3, none⟩ = some (.int .u64 z) := by rw [Lib.cell_of_heap kn2]; rfl
 have a4 : W2.cell? ⟨w.heap.size + 1, 4, none⟩ = some (.bool false) := by rw [Lib.cell_of_heap kn2]; rfl
 have hlt2 : w.heap.size ≤ W2.heap.size := by rw [hW2]; simpa using hK.size
 have hm2 : m < W2.heap.size := by omega
 have hm3 : m < (W2.alloc (.cells #[.int .u8 99, .int .i64 a, .int .u64 z, .int .u64 z, .bool false] 340)).drew.heap.size := by simp; omega
 have n1 : some m ≠ nv.ownBlock := fun e => ne_of_row h.own h.notes (by decide) m e.symm rfl
 have n2 : some (w.heap.size + 1) ≠ nv.ownBlock := fun e => by have := (h.notes.lt _ e.symm).2; omega
 have kr2 : W2.heap[w.heap.size]? = some (.cells #[.int .u8 0, .int .i64 0, .int .u64 0, .int .u64 0, .bool false] 340 (0, 0)) := by
  rw [hW2, hp_drew, hp_other _ _ _ _ (by first | (simp; done) | (simp; omega))]; exact kr
 have b0 : W2.cell? ⟨w.heap.size, 0, none⟩ = some (.int .u8 0) := by rw [Lib.cell_of_heap kr2]; rfl
 have b1 : W2.cell? ⟨w.heap.size, 1, none⟩ = some (.int .i64 0) := by rw [Lib.cell_of_heap kr2]; rfl
 have b2 : W2.cell? ⟨w.heap.size, 2, none⟩ = some (.int .u64 0) := by rw [Lib.cell_of_heap kr2]; rfl
 have b3 : W2.cell? ⟨w.heap.size, 3, none⟩ = some (.int .u64 0) := by rw [Lib.cell_of_heap kr2]; rfl
 have b4 : W2.cell? ⟨w.heap.size, 4, none⟩ = some (.bool false) := by rw [Lib.cell_of_heap kr2]; rfl
 have rf2 : ∀ o, W2.frozen? ⟨w.heap.size, o, none⟩ = false := fun o => Lib.frozen_of_heap kr2 o
 have hr2 : w.heap.size < W2.heap.size := lt_of_heap kr2
 have hr3 : w.heap.size < (W2.alloc (.cells #[.int .u8 99, .int .i64 a, .int .u64 z, .int .u64 z, .bool false] 340)).drew.heap.size := by simp; omega
 have n3 : some w.heap.size ≠ nv.ownBlock := fun e => by have := (h.notes.lt _ e.symm).2; omega
 have mN1 : (m = w.heap.size + 1) = False := eq_false (by omega)
 have hX2 : Kp (fun _ => False) (W.setCell ⟨g, a, none⟩ (.int .u64 z)) W2 := by rw [hW2]; exact (Kp.refl _ _).drew
 have HO := Lib.hid hown
 have HW2 := Lib.hid hW2
 clear hW2 k0 k1 kw kf kf1 s0 s3 sw sf kn3 hown
 have e1 : ∀ (o : Obj), ((W2.alloc o).cell? ⟨m, 1, none⟩) = some nv := fun o => kc o m1
 have e0 : ∀ (o : Obj), ((W2.alloc o).frozen? ⟨m, 1, none⟩) = false := fun o => kf o hm2 mf
 go_region_law (refine step_append_lies _ (by rfl) _ _ _ (by rfl) 0 340 i0 _ 5 40 Tryz.underlying145 hi hz0 hz1 hz2 rfl (by decide) nv σ.notes.length _ (by rfl) (row_alloc HO.out _) ⟨W2.heap.size, 0, none⟩ 1 1 [.int .u8 99, .int .i64 a, .int .u64 z, .int .u64 z, .bool false] (by rfl) (by rfl) (World.news_of_block (heap_alloc_new _ _)) (by simp [Value.oneCell']) (by omega) (by unfold maxLen; omega) (by omega) (by simp) _ rfl ?_; intro g' cap' W3 hown3 hgrow hat hlt; have q1 := hgrow.cell (kc _ m1) n1; have q2 := gf hgrow n1 hm3 (kf _ hm2 mf); have p0 := hgrow.cell (kc _ a0) n2; have p1 := hgrow.cell (kc _ a1) n2; have p2 := hgrow.cell (kc _ a2) n2; have p3 := hgrow.cell (kc _ a3) n2; have p4 := hgrow.cell (kc _ a4) n2; have r0 := hgrow.cell (kc _ b0) n3; have r1 := hgrow.cell (kc _ b1) n3; have r2 := hgrow.cell (kc _ b2) n3; have r3 := hgrow.cell (kc _ b3) n3; have r4 := hgrow.cell (kc _ b4) n3; have rf : ∀ o, W3.frozen? ⟨w.heap.size, o, none⟩ = false := fun o => gf hgrow n3 hr3 (kf _ hr2 (rf2 o)); have rr : W3.heap[w.heap.size]? = some (.cells #[.int .u8 0, .int .i64 0, .int .u64 0, .int .u64 0, .bool false] 340 (0, 0)) := (hgrow.block _ hr3 n3).trans ((hp_alloc _ _ _ hr2).trans kr2))
 all_goals go_wp2
 all_goals refine any_world (p := fun W => bodyPost _ _ _ _ _ W) ?_
 all_goals intro W4 hW4
 all_goals have hX4 := set5 (v0 := .int .u8 99) (v1 := .int .i64 a) (v2 := .int .u64 z) (v3 := .int .u64 z) (v4 := .bool false) ((hp_other W3 ⟨m, 1, none⟩ (.slice (some ⟨g', 0, none⟩) (σ.notes.length + 1) cap') w.heap.size nn).trans rr)
 all_goals have hF := kp5 (W3.setCell ⟨m, 1, none⟩ (.slice (some ⟨g', 0, none⟩) (σ.notes.length + 1) cap')) w.heap.size (.int .u8 99) (.int .i64 a) (.int .u64 z) (.int .u64 z) (.bool false)
 all_goals rw [← hW4] at hX4 hF
 all_goals have d0 : W4.cell? ⟨w.heap.size, 0, none⟩ = some (.int .u8 99) := by rw [Lib.cell_of_heap hX4]; rfl
 all_goals have d1 : W4.cell? ⟨w.heap.size, 1, none⟩ = some (.int .i64 a) := by rw [Lib.cell_of_heap hX4]; rfl
 all_goals have d2 : W4.cell? ⟨w.heap.size, 2, none⟩ = some (.int .u64 z) := by rw [Lib.cell_of_heap hX4]; rfl
 all_goals have d3 : W4.cell? ⟨w.heap.size, 3, none⟩ = some (.int .u64 z) := by rw [Lib.cell_of_heap hX4]; rfl
 all_goals have d4 : W4.cell? ⟨w.heap.size, 4, none⟩ = some (.bool false) := by rw [Lib.cell_of_heap hX4]; rfl
 all_goals clear hW4
 all_goals refine bodyPost_ret (v := .tuple #[.agg #[.int .u8 99, .int .i64 a, .int .u64 z, .int .u64 z, .bool false], .int .i64 0]) (by simp [results, Tryz.results219, go_sem, d0, d1, d2, d3, d4]) rfl ?_
 all_goals exact ⟨rfl, h.noted hK ⟨99, a, z, z, false⟩ a rfl ha hzr ((hX2.alloc _).drew) hgrow hown3 hat hr3 hF⟩
end Go.Proofs.YtgdoeoackhfikaaGreatDoor

namespace Go.Proofs.YtgdoeoackhfikaaGreatDoor
open Go.RowKit Go.Proofs.YtgdoeoackhfikaaGreatDoorW.PrintWords
set_option maxRecDepth 100000
set_option maxHeartbeats 4000000
set_option linter.unusedSimpArgs false
set_option linter.unusedVariables false
attribute [local go_sem] hs_other hs_alloc hs_falloc
attribute [local go_sem ↓] Go.wp_at_zero Go.wp_at_succ
theorem MemPost.wrap {w w1 w2 w3 : World} {b : MB} {σ σ' : MemS} (hb : MemAt w b σ) (h1 : Kp (fun _ => False) w w1) (hp : MemPost w1 b σ' w2) (h3 : Kp (fun k => w.heap.size ≤ k ∧ k < w1.heap.size) w2 w3) : MemPost w b σ' w3 := by
 obtain ⟨nv', hm, hn, hk⟩ := hp
 have l0 := h1.size
 have hlt : ∀ k, b.has k → k < w.heap.size := fun k hk => by
  rcases hk with rfl | rfl | hk
  ·exact hb.ltm
  ·exact hb.ltg
  ·exact (hb.notes.lt k hk).2
 refine ⟨nv', hm.kept h3 (fun k hk' hs => ?_), fun k hk' => (hn k hk').imp id (fun h => by omega), ?_⟩
 ·rcases hk' with h | h | h
  ·have := hlt k (.inl h); omega
  ·have := hlt k (.inr (.inl h)); omega
  ·rcases hn k h with h | h
   ·have := hlt k (.inr (.inr h)); omega
   ·omega
 ·exact ((h1.mono (fun _ e => e.elim)).comp hk (fun _ _ e => e)).comp h3 (fun k hk' e => by omega)
theorem access_none (w : World) (b : MB) (σ : MemS) (h : MemAt w b σ) (a : Int) (ha : ¬ σ.has a) (x : Value) :
  Calls Tryz.prog 219 #[.pointer (some ⟨b.m, 0, none⟩), .int .i64 a, x] w fun e w' => e = .returned (.tuple #[.agg #[.int .u8 0, .int .i64 0, .int .u64 0, .int .u64 0, .bool false], .int .i64 2]) ∧ Kp (fun _ => False) w w' := by
 have c0 := h.c0
 unfold MemS.has at ha
 have hm := h.ltm
 have hf := h.few
 have hcap := h.capb
 have hm1 : b.m < w.heap.size + 1 := by omega
 by_cases h0 : a < 0
 ·go_enter Tryz.func219, Tryz.ntmps219
  go_wp2
  refine bodyPost_ret (v := .tuple #[.agg #[.int .u8 0, .int .i64 0, .int .u64 0, .int .u64 0, .bool false], .int .i64 2]) (by simp [results, Tryz.results219, go_sem]) rfl ⟨rfl, ?_⟩
  exact Kp.of_below (by go_grown) _
 ·have h1 : ¬ (a < (σ.words.length : Int)) := by omega
  go_enter Tryz.func219, Tryz.ntmps219
  go_wp2
  refine bodyPost_ret (v := .tuple #[.agg #[.int .u8 0, .int .i64 0, .int .u64 0, .int .u64 0, .bool false], .int .i64 2]) (by simp [results, Tryz.results219, go_sem]) rfl ⟨rfl, ?_⟩
  exact Kp.of_below (by go_grown) _
theorem mem_Load (w : World) (b : MB) (σ : MemS) (h : MemAt w b σ) (a : Nat) (ha : a < σ.words.length) (hfn : σ.notes.length < 1000000000) :
  Calls Tryz.prog 216 #[.pointer (some ⟨b.m, 0, none⟩), .int .i64 a] w fun e w' => e = .returned (.tuple #[.int .u64 (σ.get a), .int .i64 0]) ∧ MemPost w b (σ.load a) w' := by
 go_enter Tryz.func216, Tryz.ntmps216
 go_wp2_with fail
 refine (access_load _ b σ (h.kept (S := fun _ => False) (Kp.of_below (by go_grown) _) (fun _ _ e => e)) a ha hfn).mono ?_
 rintro e w1 ⟨rfl, hp⟩
 go_wp2
 go_ret2
 exact ⟨rfl, hp.wrap h (Kp.refl _ _) ((Kp.refl _ _).alloc _)⟩
theorem mem_Load_no (w : World) (b : MB) (σ : MemS) (h : MemAt w b σ) (a : Int) (ha : ¬ σ.has a) :
  Calls Tryz.prog 216 #[.pointer (some ⟨b.m, 0, none⟩), .int .i64 a] w fun e w' => e = .returned (.tuple #[.int .u64 0, .int .i64 2]) ∧ Kp (fun _ => False) w w' := by
 go_enter Tryz.func216, Tryz.ntmps216
 go_wp2_with fail
 refine (access_none _ b σ (h.kept (S := fun _ => False) (Kp.of_below (by go_grown) _) (fun _ _ e => e)) a ha _).mono ?_
 rintro e w1 ⟨rfl, hp⟩
 go_wp2
 go_ret2
 exact ⟨rfl, hp.alloc _⟩
theorem mem_Store (w : World) (b : MB) (σ : MemS) (h : MemAt w b σ) (a : Nat) (ha : a < σ.words.length) (hfn : σ.notes.length < 1000000000) (v : Int) (hv : 0 ≤ v ∧ v < 18446744073709551616) :
  Calls Tryz.prog 244 #[.pointer (some ⟨b.m, 0, none⟩), .int .i64 a, .int .u64 v] w fun e w' => e = .returned (.int .i64 0) ∧ MemPost w b (σ.store a v) w' := by
 go_enter Tryz.func244, Tryz.ntmps244
 go_wp2_with fail
 refine (access_store _ b σ (h.kept (S := fun _ => False) (Kp.of_below (by go_grown) _) (fun _ _ e => e)) a ha hfn v hv).mono ?_
 rintro e w1 ⟨rfl, hp⟩
 go_wp2
 go_ret
 exact ⟨rfl, hp.wrap h (Kp.refl _ _) ((Kp.refl _ _).alloc _)⟩
theorem mem_Store_no (w : World) (b : MB) (σ : MemS) (h : MemAt w b σ) (a : Int) (ha : ¬ σ.has a) (v : Int) :
  Calls Tryz.prog 244 #[.pointer (some ⟨b.m, 0, none⟩), .int .i64 a, .int .u64 v] w fun e w' => e = .returned (.int .i64 2) ∧ Kp (fun _ => False) w w' := by
 go_enter Tryz.func244, Tryz.ntmps244
 go_wp2_with fail
 refine (access_none _ b σ (h.kept (S := fun _ => False) (Kp.of_below (by go_grown) _) (fun _ _ e => e)) a ha _).mono ?_
 rintro e w1 ⟨rfl, hp⟩
 go_wp2
 go_ret
 exact ⟨rfl, hp.alloc _⟩
theorem mem_Swap_yes (w : World) (b : MB) (σ : MemS) (h : MemAt w b σ) (a : Nat) (ha : a < σ.words.length) (hfn : σ.notes.length < 1000000000) (v : Int) (hv : 0 ≤ v ∧ v < 18446744073709551616) :
  Calls Tryz.prog 223 #[.pointer (some ⟨b.m, 0, none⟩), .int .i64 a, .int .u64 (σ.get a), .int .u64 v] w fun e w' => e = .returned (.tuple #[.bool true, .int .i64 0]) ∧ MemPost w b (σ.swap a (σ.get a) v) w' := by
 go_enter Tryz.func223, Tryz.ntmps223
 go_wp2_with fail
 refine (access_swap_yes _ b σ (h.kept (S := fun _ => False) (Kp.of_below (by go_grown) _) (fun _ _ e => e)) a ha hfn v hv).mono ?_
 rintro e w1 ⟨rfl, hp⟩
 go_wp2
 go_ret2
 have e1 : σ.swap a (σ.get a) v = σ.note ⟨99, a, σ.get a, v, true⟩ := by simp [MemS.swap]
 rw [e1]
 exact ⟨rfl, hp.wrap h (Kp.refl _ _) ((Kp.refl _ _).alloc _)⟩
theorem mem_Swap_not (w : World) (b : MB) (σ : MemS) (h : MemAt w b σ) (a : Nat) (ha : a < σ.words.length) (hfn : σ.notes.length < 1000000000) (old v : Int) (ho : σ.get a ≠ old) :
  Calls Tryz.prog 223 #[.pointer (some ⟨b.m, 0, none⟩), .int .i64 a, .int .u64 old, .int .u64 v] w fun e w' => e = .returned (.tuple #[.bool false, .int .i64 0]) ∧ MemPost w b (σ.swap a old v) w' := by
 go_enter Tryz.func223, Tryz.ntmps223
 go_wp2_with fail
 refine (access_swap_no _ b σ (h.kept (S := fun _ => False) (Kp.of_below (by go_grown) _) (fun _ _ e => e)) a ha hfn old v ho).mono ?_
 rintro e w1 ⟨rfl, hp⟩
 go_wp2
 go_ret2
 have e1 : σ.swap a old v = σ.note ⟨99, a, σ.get a, σ.get a, false⟩ := by simp [MemS.swap, ho]
 rw [e1]
 exact ⟨rfl, hp.wrap h (Kp.refl _ _) ((Kp.refl _ _).alloc _)⟩
theorem mem_Swap_no (w : World) (b : MB) (σ : MemS) (h : MemAt w b σ) (a : Int) (ha : ¬ σ.has a) (old v : Int) :
  Calls Tryz.prog 223 #[.pointer (some ⟨b.m, 0, none⟩), .int .i64 a, .int .u64 old, .int .u64 v] w fun e w' => e = .returned (.tuple #[.bool false, .int .i64 2]) ∧ Kp (fun _ => False) w w' := by
 go_enter Tryz.func223, Tryz.ntmps223
 go_wp2_with fail
 refine (access_none _ b σ (h.kept (S := fun _ => False) (Kp.of_below (by go_grown) _) (fun _ _ e => e)) a ha _).mono ?_
 rintro e w1 ⟨rfl, hp⟩
 go_wp2
 go_ret2
 exact ⟨rfl, hp.alloc _⟩
theorem mem_Count (w : World) (b : MB) (σ : MemS) (h : MemAt w b σ) :
  Calls Tryz.prog 26 #[.pointer (some ⟨b.m, 0, none⟩)] w fun e w' => e = .returned (.int .i64 σ.notes.length) ∧ w = w' := by
 have c1 := h.c1
 have hn := h.notes
 obtain ⟨m, g, cap, nv⟩ := b
 simp only at c1 hn
 rcases hn.2 with ⟨rfl, h0⟩ | ⟨g', cap', cur, rfl, _, _, _, _, _, _⟩
 ·rw [h0]
  clear hn h0
  go_enter Tryz.func26, Tryz.ntmps26
  go_wp2
  go_ret
  exact ⟨rfl, rfl⟩
 ·clear hn
  go_enter Tryz.func26, Tryz.ntmps26
  go_wp2
  go_ret
  exact ⟨rfl, rfl⟩
end Go.Proofs.YtgdoeoackhfikaaGreatDoor

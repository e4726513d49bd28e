/-
  Parts of the proof of runnerSkips_holds: RunInv, OpU, OpX, OpO, OpY, OpZ, OpW, RunLaws.
-/
import Derived.Test.YtgdoeoackhfikaaGreatDoorQA16
import Derived.Test.YtgdoeoackhfikaaGreatDoorQA17
import Derived.Test.YtgdoeoackhfikaaGreatDoorQA15
import Derived.Deep.RegionWith
namespace Go.Proofs.YtgdoeoackhfikaaGreatDoor
open Go.RowKit
set_option maxRecDepth 100000
set_option linter.unusedSimpArgs false
set_option linter.unusedVariables false
def Part.ok (c : LCfg) (k : Nat) : Part → Prop
 | .at t => t.shelf.length ≤ k
 | .ag t _ => t.shelf.length ≤ k
 | .vis v => v.c = c ∧ v.c.slots ≠ 0 ∧ v.s.right v.c.slots
 | _ => True
structure OpS.Ok (k : Nat) (y : OpS) : Prop where
 sh : y.shelf.length ≤ k
 part : y.part.ok y.c.l k
 pol : y.pol.right y.c.l.slots
theorem goOn_shelf (t : TR) (m : MemS) : (t.goOn m).1.shelf = t.shelf := by
 unfold TR.goOn; split; rfl; dsimp only; split <;> rfl
theorem takeStep_len (t : TR) (m : MemS) : (t.takeStep m).1.shelf.length ≤ t.shelf.length := by
 unfold TR.takeStep
 split
 ·simp
 ·rw [goOn_shelf]; exact Nat.le_refl _
theorem giveStep_len (t : TR) (n : Int) (m : MemS) : (t.giveStep n m).1.shelf.length ≤ t.shelf.length + 1 := by
 unfold TR.giveStep
 split
 ·simp [goOn_shelf]
 ·rw [goOn_shelf]; omega
theorem OpS.Ok.mono {k k' : Nat} {y : OpS} (h : y.Ok k) (hk : k ≤ k') : y.Ok k' := by
 refine ⟨Nat.le_trans h.sh hk, ?_, h.pol⟩
 have hp := h.part
 cases e : y.part <;> rw [e] at hp
 ·exact Nat.le_trans (show _ ≤ k from hp) hk
 ·exact Nat.le_trans (show _ ≤ k from hp) hk
 ·trivial
 ·trivial
 ·exact hp
 ·trivial
theorem OpS.Ok.core {k : Nat} {y : OpS} (h : y.Ok k) : y.core.Ok k := by
 refine ⟨h.sh, ?_, h.pol⟩
 unfold OpS.core
 dsimp only
 split <;> trivial
theorem OpS.Ok.back {k : Nat} {y : OpS} (h : y.Ok k) : y.back.Ok k := ⟨h.sh, h.sh, h.pol⟩
theorem OpS.Ok.contended {k : Nat} {y : OpS} (h : y.Ok k) : y.contended.1.Ok k := by
 have h1 : OpS.Ok k { y with failed := wrap64 (y.failed + 1) } := ⟨h.sh, h.part, h.pol⟩
 have h2 : OpS.Ok k { y with failed := wrap64 (y.failed + 1), retry := true } := ⟨h.sh, h.part, h.pol⟩
 unfold OpS.contended
 dsimp only
 split
 ·exact h2.back
 ·split
  ·exact h1
  ·split
   ·exact h1.core
   ·exact ⟨h.sh, ⟨rfl, by assumption, h.pol⟩, h.pol⟩
theorem OpS.Ok.tried {k : Nat} {y : OpS} (h : y.Ok k) (s i : Int) : (y.tried s i).1.Ok k := by
 unfold OpS.tried
 split
 ·exact h.contended
 ·split
  ·exact h
  ·split
   ·exact ⟨h.sh, h.part, h.pol⟩
   ·exact ⟨h.sh, trivial, h.pol⟩
theorem OpS.Ok.visited {k : Nat} {y : OpS} (h : y.Ok k) (s i : Int) : (y.visited s i).1.Ok k := by
 unfold OpS.visited
 split
 ·exact h
 ·split
  ·exact h.core
  ·split
   ·exact ⟨h.sh, h.part, h.pol⟩
   ·exact ⟨h.sh, trivial, h.pol⟩
theorem elv_step_right {x : ElV} (h : x.s.right x.c.slots) (σ : MemS) (r : SrcS) : (x.step σ r).1.s.right x.c.slots := by
 have hon : ∀ (z : ElV) (e : EV) (now : Int), z.c = x.c → z.s = x.s → (z.on e σ now).1.s.right x.c.slots := fun z e now hc hs => by
  unfold ElV.on
  dsimp only
  split
  ·rw [hc, hs]; exact Pol.right_after _ _ _ ⟨h.1, h.2.1⟩
  ·show z.s.right x.c.slots
   rw [hs]; exact h
 unfold ElV.step
 split
 ·exact h
 ·split
  ·exact hon _ _ _ rfl rfl
  ·split
   ·exact h
   ·exact hon _ _ _ rfl rfl
theorem OpS.Ok.next {k : Nat} {y : OpS} (h : y.Ok k) (m : MemS) (r : SrcS) : (y.next m r).1.Ok (k + 1) := by
 have hp := h.part
 have hs := h.sh
 unfold Part.ok at hp
 unfold OpS.next
 split <;> rename_i e <;> rw [e] at hp
 ·rename_i t
  have hl := takeStep_len t m
  dsimp only at hp
  dsimp only
  split
  ·exact ⟨by show _ ≤ _; dsimp only; omega, by show _ ≤ _; omega, h.pol⟩
  ·exact ⟨by show _ ≤ _; dsimp only; omega, trivial, h.pol⟩
 ·rename_i t node
  have hl := giveStep_len t node m
  dsimp only at hp
  dsimp only
  split
  ·exact ⟨by show _ ≤ _; dsimp only; omega, by show _ ≤ _; omega, h.pol⟩
  ·exact ⟨by show _ ≤ _; dsimp only; omega, by show _ ≤ _; omega, h.pol⟩
 ·rename_i x
  exact OpS.Ok.tried (show OpS.Ok (k + 1) { y with part := .tt (x.step m).1 } from ⟨Nat.le_succ_of_le hs, trivial, h.pol⟩) _ _
 ·rename_i x
  exact OpS.Ok.tried (show OpS.Ok (k + 1) { y with part := .tg (x.step m).1 } from ⟨Nat.le_succ_of_le hs, trivial, h.pol⟩) _ _
 ·rename_i v
  dsimp only at hp
  dsimp only
  have hc := elv_step_c v m r
  have hr := elv_step_right hp.2.2 m r
  have hz : (v.step m r).1.s.right y.c.l.slots := by rw [← hp.1]; exact hr
  exact OpS.Ok.visited (show OpS.Ok (k + 1) { y with part := .vis (v.step m r).1, pol := (v.step m r).1.s } from ⟨Nat.le_succ_of_le hs, ⟨hc.trans hp.1, by rw [hc]; exact hp.2.1, by rw [hc]; exact hr⟩, hz⟩) _ _
 ·split
  ·exact (h.mono (Nat.le_succ k)).core
  ·exact h.mono (Nat.le_succ k)
 ·split
  ·exact ⟨Nat.le_succ_of_le hs, Nat.le_succ_of_le hs, h.pol⟩
  ·exact h.mono (Nat.le_succ k)
theorem OpS.Ok.step {k : Nat} {y : OpS} (h : y.Ok k) (m : MemS) (r : SrcS) : (y.step m r).1.Ok (k + 1) := by
 unfold OpS.step
 split
 ·have hn := h.next m r
  exact ⟨hn.sh, hn.part, hn.pol⟩
 ·exact h.mono (Nat.le_succ k)

theorem note_len (m : MemS) (x : Acc) : (m.note x).notes.length = m.notes.length + 1 := by simp [MemS.note]
theorem swap_len (m : MemS) (a o n : Int) : (m.swap a o n).notes.length = m.notes.length + 1 := by unfold MemS.swap; split <;> exact note_len _ _
theorem tl_len (x : TL) (m : MemS) : m.notes.length ≤ (x.step m).2.notes.length ∧ (x.step m).2.notes.length ≤ m.notes.length + 1 := by
 unfold TL.step
 split
 ·unfold TL.next TL.swp
  split <;> dsimp only <;> (repeat' split) <;> simp [MemS.load, MemS.store, note_len, swap_len]
 ·simp
theorem goOn_len (t : TR) (m : MemS) : m.notes.length ≤ (t.goOn m).2.notes.length ∧ (t.goOn m).2.notes.length ≤ m.notes.length + 1 := by
 unfold TR.goOn
 split
 ·simp
 ·dsimp only
  have := tl_len (t.now.getD t.fresh) m
  split <;> exact this
theorem ev_len (x : EV) (m : MemS) (now : Int) : m.notes.length ≤ (x.step m now).2.notes.length ∧ (x.step m now).2.notes.length ≤ m.notes.length + 1 := by
 unfold EV.step
 split
 ·unfold EV.next EV.swp
  split <;> dsimp only <;> (repeat' split) <;> simp [MemS.load, MemS.store, note_len, swap_len]
 ·simp
theorem elv_len (x : ElV) (m : MemS) (r : SrcS) : m.notes.length ≤ (x.step m r).2.1.notes.length ∧ (x.step m r).2.1.notes.length ≤ m.notes.length + 1 := by
 unfold ElV.step
 split
 ·simp
 ·split
  ·unfold ElV.on; exact ev_len _ _ _
  ·split
   ·simp
   ·unfold ElV.on; exact ev_len _ _ _
theorem rest_len (r : SrcS) (n : Int) : (r.rest n).draws.length ≤ r.draws.length := by
 unfold SrcS.rest
 split
 ·exact Nat.le_refl _
 ·simp
theorem elv_draws (x : ElV) (m : MemS) (r : SrcS) : (x.step m r).2.2.1.draws.length ≤ r.draws.length := by
 unfold ElV.step
 split
 ·exact Nat.le_refl _
 ·split
  ·exact Nat.le_refl _
  ·split
   ·exact Nat.le_refl _
   ·exact rest_len _ _
theorem next_len (y : OpS) (m : MemS) (r : SrcS) : (m.notes.length ≤ (y.next m r).2.1.notes.length ∧ (y.next m r).2.1.notes.length ≤ m.notes.length + 1) ∧ (y.next m r).2.2.1.draws.length ≤ r.draws.length := by
 have hta : ∀ t : TR, m.notes.length ≤ (t.takeStep m).2.notes.length ∧ (t.takeStep m).2.notes.length ≤ m.notes.length + 1 := fun t => by
  unfold TR.takeStep
  split
  ·simp
  ·exact goOn_len t m
 have hgi : ∀ (t : TR) (n : Int), m.notes.length ≤ (t.giveStep n m).2.notes.length ∧ (t.giveStep n m).2.notes.length ≤ m.notes.length + 1 := fun t n => by
  unfold TR.giveStep
  split <;> exact goOn_len t m
 unfold OpS.next
 split
 ·dsimp only
  split <;> exact ⟨hta _, Nat.le_refl _⟩
 ·dsimp only
  split <;> exact ⟨hgi _ _, Nat.le_refl _⟩
 ·exact ⟨tl_len _ _, Nat.le_refl _⟩
 ·exact ⟨tl_len _ _, Nat.le_refl _⟩
 ·exact ⟨elv_len _ _ _, elv_draws _ _ _⟩
 ·split
  ·exact ⟨by simp [MemS.store, note_len], Nat.le_refl _⟩
  ·exact ⟨by simp, Nat.le_refl _⟩
 ·split
  ·exact ⟨by simp [MemS.load, note_len], Nat.le_refl _⟩
  ·exact ⟨by simp, Nat.le_refl _⟩
theorem step_len (y : OpS) (m : MemS) (r : SrcS) : (m.notes.length ≤ (y.step m r).2.1.notes.length ∧ (y.step m r).2.1.notes.length ≤ m.notes.length + 1) ∧ (y.step m r).2.2.draws.length ≤ r.draws.length := by
 unfold OpS.step
 split
 ·exact next_len y m r
 ·exact ⟨by simp, Nat.le_refl _⟩

structure Run.Inv (k : Nat) (σ : Run) : Prop where
 notes : σ.mem.notes.length ≤ k
 draws : σ.src.draws.length ≤ k
 evs : σ.evs.length ≤ k
 picks : σ.picks ≤ k
 ths : ∀ x ∈ σ.ths, x.shelf.length ≤ k ∧ x.pol.right σ.c.l.slots ∧ ∀ y, x.op = some y → y.st = 0 ∧ y.c = σ.c ∧ y.Ok k
theorem Run.Inv.mono {k k' : Nat} {σ : Run} (h : σ.Inv k) (hk : k ≤ k') : σ.Inv k' := by
 have h1 := h.notes
 have h2 := h.draws
 have h3 := h.evs
 have h4 := h.picks
 exact ⟨by omega, by omega, by omega, by omega, fun x hx => ⟨Nat.le_trans (h.ths x hx).1 hk, (h.ths x hx).2.1, fun y hy => ⟨((h.ths x hx).2.2 y hy).1, ((h.ths x hx).2.2 y hy).2.1, ((h.ths x hx).2.2 y hy).2.2.mono hk⟩⟩⟩
theorem Run.Inv.set {k : Nat} {σ : Run} (h : σ.Inv k) (t : Nat) (x : Th) (hx : x.shelf.length ≤ k ∧ x.pol.right σ.c.l.slots ∧ ∀ y, x.op = some y → y.st = 0 ∧ y.c = σ.c ∧ y.Ok k) (z : Th) (hz : z ∈ σ.ths.set t x) : z.shelf.length ≤ k ∧ z.pol.right σ.c.l.slots ∧ ∀ y, z.op = some y → y.st = 0 ∧ y.c = σ.c ∧ y.Ok k := by
 rcases List.mem_or_eq_of_mem_set hz with h' | rfl
 ·exact h.ths z h'
 ·exact hx
theorem Run.Inv.asked {k : Nat} {σ : Run} (h : σ.Inv k) (t : Nat) (x : Th) (hx : σ.ths[t]? = some x) (push : Bool) (v : Int) : (σ.asked t x push v).1.Inv (k + 1) := by
 unfold Run.asked
 split
 ·exact h.mono (Nat.le_succ k)
 ·have hm := h.ths x (List.mem_of_getElem? hx)
  have h' := h.mono (Nat.le_succ k)
  refine ⟨h'.notes, h'.draws, by have := h.evs; simp; omega, h'.picks, fun z hz => h'.set t { x with op := some (if push then newPush σ.c x.shelf x.pol v else newPop σ.c x.shelf x.pol), push := push } ⟨Nat.le_trans hm.1 (Nat.le_succ k), hm.2.1, fun y hy => ?_⟩ z hz⟩
  have hy : some (if push then newPush σ.c x.shelf x.pol v else newPop σ.c x.shelf x.pol) = some y := hy
  have hl : x.shelf.length ≤ k + 1 := Nat.le_trans hm.1 (Nat.le_succ k)
  cases push
  ·obtain rfl : newPop σ.c x.shelf x.pol = y := Option.some.inj hy
   exact ⟨by unfold newPop; exact if_pos hm.2.1, rfl, ⟨hl, trivial, hm.2.1⟩⟩
  ·obtain rfl : newPush σ.c x.shelf x.pol v = y := Option.some.inj hy
   exact ⟨by unfold newPush; exact if_pos hm.2.1, rfl, ⟨hl, hl, hm.2.1⟩⟩
theorem Run.Inv.picked {k : Nat} {σ : Run} (h : σ.Inv k) (t : Nat) (x : Th) (hx : σ.ths[t]? = some x) : (σ.picked t x).1.Inv (k + 1) := by
 unfold Run.picked
 split
 ·exact h.mono (Nat.le_succ k)
 ·rename_i o ho
  have hm := h.ths x (List.mem_of_getElem? hx)
  obtain ⟨e1, e2, e3⟩ := hm.2.2 o ho
  have h' := h.mono (Nat.le_succ k)
  have hok := e3.step σ.mem σ.src
  have hc := step_c o σ.mem σ.src
  obtain ⟨l1, l2⟩ := step_len o σ.mem σ.src
  have n1 := h.notes
  have n2 := h.draws
  have n3 := h.evs
  have n4 := h.picks
  dsimp only
  split
  ·rename_i h0
   refine ⟨by show _ ≤ _; dsimp only; omega, by show _ ≤ _; dsimp only; omega, by show _ ≤ _; dsimp only; omega, by show _ ≤ _; dsimp only; omega, fun z hz => h'.set t { x with op := some (o.step σ.mem σ.src).1 } ⟨Nat.le_trans hm.1 (Nat.le_succ k), hm.2.1, fun y hy => ?_⟩ z hz⟩
   obtain rfl : (o.step σ.mem σ.src).1 = y := Option.some.inj hy
   exact ⟨h0, hc.trans e2, hok⟩
  ·refine ⟨by show _ ≤ _; dsimp only; omega, by show _ ≤ _; dsimp only; omega, by simp; omega, by show _ ≤ _; dsimp only; omega, fun z hz => h'.set t { x with shelf := (o.step σ.mem σ.src).1.shelf, pol := (o.step σ.mem σ.src).1.pol, op := none } ⟨hok.sh, ?_, fun y hy => by cases hy⟩ z hz⟩
   have := hok.pol
   rw [hc, e2] at this
   exact this
theorem Run.Inv.do_ {k : Nat} {σ : Run} (h : σ.Inv k) (e : Ent) : (σ.do_ e).1.Inv (k + 1) := by
 have h' := h.mono (Nat.le_succ k)
 unfold Run.do_
 split
 ·exact h'
 split
 ·exact h'
 split
 ·exact h'
 split
 ·exact ⟨h'.notes, h'.draws, h'.evs, h'.picks, h'.ths⟩
 split
 ·split
  ·exact ⟨h'.notes, by have := h.draws; simp; omega, h'.evs, h'.picks, h'.ths⟩
  ·exact h'
 split
 ·exact h'
 ·rename_i x hx
  split
  ·exact h.picked _ x hx
  ·exact h.asked _ x hx _ _
theorem Run.Inv.runs {k : Nat} {σ : Run} (h : σ.Inv k) (es : List G.S33) : (σ.runs es).1.Inv (k + es.length) := by
 induction es generalizing k σ with
 | nil => exact h
 | cons e es ih =>
  have := ih (h.do_ (entOf e))
  rw [show k + (e :: es).length = k + 1 + es.length from by simp; omega]
  exact this
theorem Pol.new_right (n : Int) (h : 0 ≤ n ∧ n ≤ 16) : (Pol.new n).right n := Pol.right_within _ _ h
theorem newRun_inv (c : ECfg) (hc : c.right) (n : Nat) (ws : List Int) : (newRun c n ws).Inv 0 := by
 refine ⟨by simp [newRun], by simp [newRun], by simp [newRun], by simp [newRun], fun x hx => ?_⟩
 have hx : x ∈ List.replicate n (⟨[], Pol.new c.l.slots, none, false⟩ : Th) := hx
 obtain ⟨_, rfl⟩ := List.mem_replicate.1 hx
 exact ⟨by simp, Pol.new_right _ ⟨hc.1.2.2.1, hc.1.2.2.2.1⟩, fun y hy => by cases hy⟩
end Go.Proofs.YtgdoeoackhfikaaGreatDoor

namespace Go.Proofs.YtgdoeoackhfikaaGreatDoor
open Go.RowKit Go.Proofs.YtgdoeoackhfikaaGreatDoorW.PrintWords
set_option maxRecDepth 100000
set_option maxHeartbeats 4000000
set_option linter.unusedSimpArgs false
set_option linter.unusedVariables false
attribute [local go_sem] hs_other hs_alloc hs_falloc run_store_func run_makeFunc
attribute [local go_sem ↓] Go.wp_at_zero Go.wp_at_succ
theorem assert_pointer1 {P : Program} {w : World} {e : TypeId} (t xT : TypeId) (v : Value) (h : P.underlying t = some (.pointer e)) : (Instr.typeAssert (.iface t v) xT t false).run P w = .ok v w := by
 simp [Instr.typeAssert, run_underlying h, go_sem, Result.andThen]
theorem assert_struct1 {P : Program} {w : World} {fs : Array Field} (t xT : TypeId) (v : Value) (h : P.underlying t = some (.struct fs)) : (Instr.typeAssert (.iface t v) xT t false).run P w = .ok v w := by
 simp [Instr.typeAssert, run_underlying h, go_sem, Result.andThen]
def NextPost (F : Nat → Prop) (w : World) (b : MB) (s : Nat) (dv : Value) (o : Nat) (z : OpS × MemS × SrcS × Int) (e : Ending) (w' : World) : Prop :=
 e = .returned (.int .i64 z.2.2.2) ∧ OPost F w b s dv z.2.1 z.2.2.1 w' (fun W F' => OpAt W F' o z.1)
theorem Apart.part {w : World} {b : MB} {F P : Nat → Prop} {o : Nat} {sv : Value} (h : Apart w b F) (hP : ∀ k, P k → F k ∧ k ≠ o ∧ sv.ownBlock ≠ some k) : Apart w b P := ⟨fun k hk => h.ne k (hP k hk).1, fun k hk => h.lt k (hP k hk).1⟩
theorem Post.trs {P : Nat → Prop} {w w1 : World} {b : MB} {σ' : MemS} {a : Nat} {nd : Option Int} {t : TR} (h : Post P w b σ' w1 (fun W F' => TRAt W F' a nd t)) : ∃ Q : Nat → Prop, TRAt w1 Q a nd t := by
 obtain ⟨nv', _, _, _, hx⟩ := h
 exact ⟨_, hx⟩
theorem op_took (w : World) (b : MB) (σ : MemS) (hb : MemAt w b σ) (hfn : σ.notes.length < 1000000000) (s : Nat) (dv : Value) (r : SrcS) (hs : SrcAt w s dv r) (F : Nat → Prop) (hA : Apart w b F) (ha : SApart b F s dv) (o : Nat) (x : OpS) (hx : OpAt w F o x) (t : TR) (hp : x.part = .at t) :
  Calls Tryz.prog 229 #[.pointer (some ⟨o, 0, none⟩), .pointer (some ⟨b.m, 0, none⟩)] w (NextPost F w b s dv o (x.next σ r)) := by
 obtain ⟨sv, pv, P, ho, hsh, hpa, hP⟩ := hx.obj
 have hpa' : PartAt w P pv (.at t) := hp ▸ hpa
 obtain ⟨a, rfl, ht, hl⟩ := hpa'
 have e : x.next σ r = (if (t.takeStep σ).1.st ≠ 1 then ({ x with shelf := (t.takeStep σ).1.shelf, part := .at (t.takeStep σ).1 }, (t.takeStep σ).2, r, (t.takeStep σ).1.st) else ({ x with shelf := (t.takeStep σ).1.shelf, i := (t.takeStep σ).1.i, part := .acc (x.c.l.valueAt (t.takeStep σ).1.i) true }, (t.takeStep σ).2, r, 0)) := by unfold OpS.next; rw [hp]
 have hl' : (t.takeStep σ).1.shelf.length ≤ 1000000 := Nat.le_trans (takeStep_len t σ) hl
 have hstep := arena_Take_Step w b σ hb hfn P (hA.part hP) a t ht hl
 rw [e]
 generalize t.takeStep σ = y at *
 obtain ⟨t', σ'⟩ := y
 dsimp only at hl' hstep ⊢
 unfold TriesPost at hstep
 have hres := fun (w1 : World) (hpost : Post P w b σ' w1 (fun W F' => TRAt W F' a none t')) => OPost.then hb hs hA ha hx.own (((Post.part hb hA hx ho hsh hP (hpost.imp (fun F' h => (show PartAt _ _ _ (.at t') from ⟨a, rfl, h, hl'⟩)))).src hs ha : OPost F w b s dv σ' r w1 (fun W F' => OpAt W F' o { x with part := .at t' })))
 have c14 : w.cell? ⟨o, 14, none⟩ = some (.iface 322 (.pointer (some ⟨a, 0, none⟩))) := (obj_cells ho).1 14
 have has := fun W => assert_pointer1 (P := Tryz.prog) (w := W) 322 20 (.pointer (some ⟨a, 0, none⟩)) Tryz.underlying322
 have HST := Lib.hid hstep
 have HRES := Lib.hid hres
 have hxr := hx.right
 clear e hstep hres hsh hpa hP ho ht hp hs hb hA ha hx
 by_cases h1 : t'.st = 1
 ·rw [if_neg (fun e => e h1)]
  rw [h1] at HST
  clear h1
  go_enter Tryz.func229, Tryz.ntmps229
  go_wp2_with fail
  refine HST.out.mono ?_
  rintro e w1 ⟨rfl, hpost⟩
  obtain ⟨F1, hx1, hlt1, hfin⟩ := HRES.out w1 hpost
  obtain ⟨Q, htr⟩ := hpost.trs
  have hsf := arena_TakeShelf w1 Q a none t' htr hl'
  have hri := htr.ri
  obtain ⟨sv1, pv1, P1, ho1, _, _, _⟩ := hx1.obj
  have HX1 := Lib.hid hx1
  have HLT1 := Lib.hid hlt1
  have HFIN := Lib.hid hfin
  have HO1 := Lib.hid ho1
  clear hpost htr hx1 hlt1 hfin HST HRES c14 has ho1
  go_wp2_with fail
  refine hsf.mono ?_
  rintro e w2 ⟨v', rfl, hk2, hsh2⟩
  have ho2 := hk2.heap HO1.out (fun e => e)
  have c7 : w2.cell? ⟨o, 7, none⟩ = some sv1 := (obj_cells ho2).1 7
  have f7 : w2.frozen? ⟨o, 7, none⟩ = false := (obj_cells ho2).2.1 7
  obtain ⟨A2, cc2, rfl⟩ := row_slice hsh2.row
  have hm3 := HX1.out.putShelf HLT1.out hk2 _ _ hsh2 hl'
  have hx3 := hm3.2
  obtain ⟨sv3, pv3, P3, ho3, _, _, _⟩ := hx3.obj
  have HM3 := Lib.hid hm3
  have HX3 := Lib.hid hx3
  have HLT3 := Lib.hid (hm3.lt HLT1.out)
  have c12 : (w2.setCell ⟨o, 7, none⟩ (.slice A2 t'.shelf.length cc2)).cell? ⟨o, 12, none⟩ = some (.int .u32 x.i) := (obj_cells ho3).1 12
  have f12 : (w2.setCell ⟨o, 7, none⟩ (.slice A2 t'.shelf.length cc2)).frozen? ⟨o, 12, none⟩ = false := (obj_cells ho3).2.1 12
  clear hsf ho2 hsh2 hk2 HO1 hm3 hx3 ho3
  have hx4 := HX3.out.put (y := { x with shelf := t'.shelf, part := .at t', i := t'.i }) 12 (.int .u32 t'.i) (fun _ _ => rfl) rfl rfl rfl rfl HX3.out.rv hri
  have HK4 := Lib.hid (show Kp (fun k => k = o) (w2.setCell ⟨o, 7, none⟩ (.slice A2 t'.shelf.length cc2)) ((w2.setCell ⟨o, 7, none⟩ (.slice A2 t'.shelf.length cc2)).setCell ⟨o, 12, none⟩ (.int .u32 t'.i)) from Kp.st (S := fun k => k = o) (Kp.refl _ _) (.inl rfl) 12 _)
  have HSZ4 := Lib.hid (show ((w2.setCell ⟨o, 7, none⟩ (.slice A2 t'.shelf.length cc2)).setCell ⟨o, 12, none⟩ (.int .u32 t'.i)).heap.size = (w2.setCell ⟨o, 7, none⟩ (.slice A2 t'.shelf.length cc2)).heap.size from by simp [World.setCell])
  obtain ⟨sv4, pv4, P4, ho4, _, _, _⟩ := hx4.obj
  have HO4 := Lib.hid ho4
  have HX4 := Lib.hid hx4
  have a0 : ((w2.setCell ⟨o, 7, none⟩ (.slice A2 t'.shelf.length cc2)).setCell ⟨o, 12, none⟩ (.int .u32 t'.i)).cell? ⟨o, 0, none⟩ = some (.int .i64 x.c.l.nodes) := (obj_cells ho4).1 0
  have a1 : ((w2.setCell ⟨o, 7, none⟩ (.slice A2 t'.shelf.length cc2)).setCell ⟨o, 12, none⟩ (.int .u32 t'.i)).cell? ⟨o, 1, none⟩ = some (.int .i64 x.c.l.slots) := (obj_cells ho4).1 1
  have a2 : ((w2.setCell ⟨o, 7, none⟩ (.slice A2 t'.shelf.length cc2)).setCell ⟨o, 12, none⟩ (.int .u32 t'.i)).cell? ⟨o, 2, none⟩ = some (.int .i64 x.c.l.holders) := (obj_cells ho4).1 2
  have a3 : ((w2.setCell ⟨o, 7, none⟩ (.slice A2 t'.shelf.length cc2)).setCell ⟨o, 12, none⟩ (.int .u32 t'.i)).cell? ⟨o, 3, none⟩ = some (.int .u32 x.c.l.tag) := (obj_cells ho4).1 3
  have hlv := fun V => layout_Value x.c.l V hxr.1 t'.i hri
  unfold LCfg.v at hlv
  have HLV := Lib.hid hlv
  clear ho4 hx4 hlv
  go_wp2_with fail
  refine (HLV.out _).mono ?_
  rintro e w5 ⟨rfl, hb5⟩
  have hk5 := Kp.nb hb5
  have hgo5 := fun t v => op_goes w5 o t v pv4 ((obj_cells (hk5.heap HO4.out (fun e => e))).1 14) ((obj_cells (hk5.heap HO4.out (fun e => e))).2.1 14)
  clear a0 a1 a2 a3 hb5 c12 f12 c7 f7
  go_wp2_with fail
  refine (hgo5 _ _).mono ?_
  rintro e w6 ⟨rfl, rfl⟩
  go_wp2
  go_ret
  exact ⟨rfl, HFIN.out _ _ (HM3.out.more (OpMore.base HK4.out HSZ4.out (HX4.out.newPart (fun k hk => by rw [HSZ4.out]; exact HLT3.out k hk) hk5 (.acc (x.c.l.valueAt t'.i) true) _ rfl)))⟩
 ·rw [if_pos h1]
  have t1 : (t'.st != 1) = true := by rw [bne_iff_ne]; exact h1
  have HH1 := Lib.hid h1
  clear h1
  go_enter Tryz.func229, Tryz.ntmps229
  go_wp2_with fail
  refine HST.out.mono ?_
  rintro e w1 ⟨rfl, hpost⟩
  obtain ⟨F1, hx1, hlt1, hfin⟩ := HRES.out w1 hpost
  obtain ⟨Q, htr⟩ := hpost.trs
  have hsf := arena_TakeShelf w1 Q a none t' htr hl'
  have hri := htr.ri
  obtain ⟨sv1, pv1, P1, ho1, _, _, _⟩ := hx1.obj
  have HX1 := Lib.hid hx1
  have HLT1 := Lib.hid hlt1
  have HFIN := Lib.hid hfin
  have HO1 := Lib.hid ho1
  clear hpost htr hx1 hlt1 hfin HST HRES c14 has ho1
  go_wp2_with fail
  refine hsf.mono ?_
  rintro e w2 ⟨v', rfl, hk2, hsh2⟩
  have ho2 := hk2.heap HO1.out (fun e => e)
  have c7 : w2.cell? ⟨o, 7, none⟩ = some sv1 := (obj_cells ho2).1 7
  have f7 : w2.frozen? ⟨o, 7, none⟩ = false := (obj_cells ho2).2.1 7
  obtain ⟨A2, cc2, rfl⟩ := row_slice hsh2.row
  have hm3 := HX1.out.putShelf HLT1.out hk2 _ _ hsh2 hl'
  have hx3 := hm3.2
  obtain ⟨sv3, pv3, P3, ho3, _, _, _⟩ := hx3.obj
  have HM3 := Lib.hid hm3
  have HX3 := Lib.hid hx3
  have HLT3 := Lib.hid (hm3.lt HLT1.out)
  have c12 : (w2.setCell ⟨o, 7, none⟩ (.slice A2 t'.shelf.length cc2)).cell? ⟨o, 12, none⟩ = some (.int .u32 x.i) := (obj_cells ho3).1 12
  have f12 : (w2.setCell ⟨o, 7, none⟩ (.slice A2 t'.shelf.length cc2)).frozen? ⟨o, 12, none⟩ = false := (obj_cells ho3).2.1 12
  clear hsf ho2 hsh2 hk2 HO1 hm3 hx3 ho3
  go_wp2
  go_ret
  exact ⟨rfl, HFIN.out _ _ HM3.out⟩
theorem op_gave (w : World) (b : MB) (σ : MemS) (hb : MemAt w b σ) (hfn : σ.notes.length < 1000000000) (s : Nat) (dv : Value) (r : SrcS) (hs : SrcAt w s dv r) (F : Nat → Prop) (hA : Apart w b F) (ha : SApart b F s dv) (o : Nat) (x : OpS) (hx : OpAt w F o x) (t : TR) (node : Int) (hp : x.part = .ag t node) (hfew : t.shelf.length < 1000000) :
  Calls Tryz.prog 230 #[.pointer (some ⟨o, 0, none⟩), .pointer (some ⟨b.m, 0, none⟩)] w (NextPost F w b s dv o (x.next σ r)) := by
 obtain ⟨sv, pv, P, ho, hsh, hpa, hP⟩ := hx.obj
 have hpa' : PartAt w P pv (.ag t node) := hp ▸ hpa
 obtain ⟨a, rfl, ht, hn1, hn2, hl⟩ := hpa'
 have e : x.next σ r = (if (t.giveStep node σ).1.st ≠ 1 then ({ x with shelf := (t.giveStep node σ).1.shelf, part := .ag (t.giveStep node σ).1 node }, (t.giveStep node σ).2, r, (t.giveStep node σ).1.st) else ({ x with shelf := (t.giveStep node σ).1.shelf, part := .ag (t.giveStep node σ).1 node, i := 0 }, (t.giveStep node σ).2, r, if x.retry then 6 else 1)) := by unfold OpS.next; rw [hp]
 have hl' : (t.giveStep node σ).1.shelf.length ≤ 1000000 := by have := giveStep_len t node σ; omega
 have hstep := arena_Give_Step w b σ hb hfn P (hA.part hP) a node ⟨hn1, hn2⟩ t ht hl
 rw [e]
 generalize t.giveStep node σ = y at *
 obtain ⟨t', σ'⟩ := y
 dsimp only at hl' hstep ⊢
 unfold TriesPost at hstep
 have hres := fun (w1 : World) (hpost : Post P w b σ' w1 (fun W F' => TRAt W F' a (some node) t')) => OPost.then hb hs hA ha hx.own (((Post.part hb hA hx ho hsh hP (hpost.imp (fun F' h => (show PartAt _ _ _ (.ag t' node) from ⟨a, rfl, h, hn1, hn2, hl'⟩)))).src hs ha : OPost F w b s dv σ' r w1 (fun W F' => OpAt W F' o { x with part := .ag t' node })))
 have c14 : w.cell? ⟨o, 14, none⟩ = some (.iface 358 (.pointer (some ⟨a, 0, none⟩))) := (obj_cells ho).1 14
 have has := fun W => assert_pointer1 (P := Tryz.prog) (w := W) 358 20 (.pointer (some ⟨a, 0, none⟩)) Tryz.underlying358
 have HST := Lib.hid hstep
 have HRES := Lib.hid hres
 have hxr := hx.right
 clear e hstep hres hsh hpa hP ho ht hp hs hb hA ha hx
 by_cases h1 : t'.st = 1
 ·rw [if_neg (fun e => e h1)]
  rw [h1] at HST
  clear h1
  obtain ⟨rt, hrt⟩ : ∃ rt, x.retry = rt := ⟨_, rfl⟩
  obtain ⟨rv, hrv⟩ : ∃ rv : Int, rv = (if x.retry then 6 else 1) := ⟨_, rfl⟩
  rw [← hrv]
  have HRV0 := Lib.hid (show rt = false → rv = 1 from fun e => by rw [hrv, hrt, e]; rfl)
  have HRV1 := Lib.hid (show rt = true → rv = 6 from fun e => by rw [hrv, hrt, e]; rfl)
  have HRT := Lib.hid hrt
  clear hrv hrt
  go_enter Tryz.func230, Tryz.ntmps230
  go_wp2_with fail
  refine HST.out.mono ?_
  rintro e w1 ⟨rfl, hpost⟩
  obtain ⟨F1, hx1, hlt1, hfin⟩ := HRES.out w1 hpost
  obtain ⟨Q, htr⟩ := hpost.trs
  have hsf := arena_GiveShelf w1 Q a (some node) t' htr hl'
  have hri := htr.ri
  obtain ⟨sv1, pv1, P1, ho1, _, _, _⟩ := hx1.obj
  have HX1 := Lib.hid hx1
  have HLT1 := Lib.hid hlt1
  have HFIN := Lib.hid hfin
  have HO1 := Lib.hid ho1
  clear hpost htr hx1 hlt1 hfin HST HRES c14 has ho1
  go_wp2_with fail
  refine hsf.mono ?_
  rintro e w2 ⟨v', rfl, hk2, hsh2⟩
  have ho2 := hk2.heap HO1.out (fun e => e)
  have c7 : w2.cell? ⟨o, 7, none⟩ = some sv1 := (obj_cells ho2).1 7
  have f7 : w2.frozen? ⟨o, 7, none⟩ = false := (obj_cells ho2).2.1 7
  obtain ⟨A2, cc2, rfl⟩ := row_slice hsh2.row
  have hm3 := HX1.out.putShelf HLT1.out hk2 _ _ hsh2 hl'
  have hx3 := hm3.2
  obtain ⟨sv3, pv3, P3, ho3, _, _, _⟩ := hx3.obj
  have HM3 := Lib.hid hm3
  have HX3 := Lib.hid hx3
  have HLT3 := Lib.hid (hm3.lt HLT1.out)
  have c12 : (w2.setCell ⟨o, 7, none⟩ (.slice A2 t'.shelf.length cc2)).cell? ⟨o, 12, none⟩ = some (.int .u32 x.i) := (obj_cells ho3).1 12
  have f12 : (w2.setCell ⟨o, 7, none⟩ (.slice A2 t'.shelf.length cc2)).frozen? ⟨o, 12, none⟩ = false := (obj_cells ho3).2.1 12
  clear hsf ho2 hsh2 hk2 HO1 hm3 hx3 ho3
  have hx4 := HX3.out.put (y := { x with shelf := t'.shelf, part := .ag t' node, i := 0 }) 12 (.int .u32 0) (fun _ _ => rfl) rfl rfl rfl rfl HX3.out.rv (show (0 : Int) ≤ 0 ∧ (0 : Int) < 4294967296 by decide)
  have hk4 : Kp (fun k => k = o) (w2.setCell ⟨o, 7, none⟩ (.slice A2 t'.shelf.length cc2)) ((w2.setCell ⟨o, 7, none⟩ (.slice A2 t'.shelf.length cc2)).setCell ⟨o, 12, none⟩ (.int .u32 0)) := Kp.st (S := fun k => k = o) (Kp.refl _ _) (.inl rfl) 12 _
  have hsz4 : ((w2.setCell ⟨o, 7, none⟩ (.slice A2 t'.shelf.length cc2)).setCell ⟨o, 12, none⟩ (.int .u32 0)).heap.size = (w2.setCell ⟨o, 7, none⟩ (.slice A2 t'.shelf.length cc2)).heap.size := by simp [World.setCell]
  obtain ⟨sv4, pv4, P4, ho4, _, _, _⟩ := hx4.obj
  have c16 : ((w2.setCell ⟨o, 7, none⟩ (.slice A2 t'.shelf.length cc2)).setCell ⟨o, 12, none⟩ (.int .u32 0)).cell? ⟨o, 16, none⟩ = some (.bool x.retry) := (obj_cells ho4).1 16
  have HEND := Lib.hid (HFIN.out _ _ (HM3.out.more (OpMore.base hk4 hsz4 (OpMore.refl hx4))))
  clear ho4 hx4 hk4 hsz4
  cases rt
  ·rw [HRT.out] at c16
   clear HRT
   go_wp2
   go_ret
   exact ⟨(by have e : rv = 1 := (by first | exact HRV0.out rfl | exact HRV0.out trivial); subst e; rfl), HEND.out⟩
  ·rw [HRT.out] at c16
   clear HRT
   go_wp2
   go_ret
   exact ⟨(by have e : rv = 6 := (by first | exact HRV1.out rfl | exact HRV1.out trivial); subst e; rfl), HEND.out⟩
 ·rw [if_pos h1]
  have t1 : (t'.st != 1) = true := by rw [bne_iff_ne]; exact h1
  have HH1 := Lib.hid h1
  clear h1
  go_enter Tryz.func230, Tryz.ntmps230
  go_wp2_with fail
  refine HST.out.mono ?_
  rintro e w1 ⟨rfl, hpost⟩
  obtain ⟨F1, hx1, hlt1, hfin⟩ := HRES.out w1 hpost
  obtain ⟨Q, htr⟩ := hpost.trs
  have hsf := arena_GiveShelf w1 Q a (some node) t' htr hl'
  have hri := htr.ri
  obtain ⟨sv1, pv1, P1, ho1, _, _, _⟩ := hx1.obj
  have HX1 := Lib.hid hx1
  have HLT1 := Lib.hid hlt1
  have HFIN := Lib.hid hfin
  have HO1 := Lib.hid ho1
  clear hpost htr hx1 hlt1 hfin HST HRES c14 has ho1
  go_wp2_with fail
  refine hsf.mono ?_
  rintro e w2 ⟨v', rfl, hk2, hsh2⟩
  have ho2 := hk2.heap HO1.out (fun e => e)
  have c7 : w2.cell? ⟨o, 7, none⟩ = some sv1 := (obj_cells ho2).1 7
  have f7 : w2.frozen? ⟨o, 7, none⟩ = false := (obj_cells ho2).2.1 7
  obtain ⟨A2, cc2, rfl⟩ := row_slice hsh2.row
  have hm3 := HX1.out.putShelf HLT1.out hk2 _ _ hsh2 hl'
  have hx3 := hm3.2
  obtain ⟨sv3, pv3, P3, ho3, _, _, _⟩ := hx3.obj
  have HM3 := Lib.hid hm3
  have HX3 := Lib.hid hx3
  have HLT3 := Lib.hid (hm3.lt HLT1.out)
  have c12 : (w2.setCell ⟨o, 7, none⟩ (.slice A2 t'.shelf.length cc2)).cell? ⟨o, 12, none⟩ = some (.int .u32 x.i) := (obj_cells ho3).1 12
  have f12 : (w2.setCell ⟨o, 7, none⟩ (.slice A2 t'.shelf.length cc2)).frozen? ⟨o, 12, none⟩ = false := (obj_cells ho3).2.1 12
  clear hsf ho2 hsh2 hk2 HO1 hm3 hx3 ho3
  go_wp2
  go_ret
  exact ⟨rfl, HFIN.out _ _ HM3.out⟩
end Go.Proofs.YtgdoeoackhfikaaGreatDoor

namespace Go.Proofs.YtgdoeoackhfikaaGreatDoor
open Go.RowKit Go.Proofs.YtgdoeoackhfikaaGreatDoorW.PrintWords
set_option maxRecDepth 100000
set_option maxHeartbeats 4000000
set_option linter.unusedSimpArgs false
set_option linter.unusedVariables false
attribute [local go_sem] hs_other hs_alloc hs_falloc run_store_func run_makeFunc
attribute [local go_sem ↓] Go.wp_at_zero Go.wp_at_succ
theorem MemPost.op {w w0 w1 : World} {b : MB} {σ σ' : MemS} {F : Nat → Prop} {o : Nat} {x : OpS} (hb : MemAt w b σ) (hA : Apart w b F) (hx : OpAt w F o x) (h0 : Kp (fun _ => False) w w0) (h : MemPost w0 b σ' w1) : Post F w b σ' w1 (fun W F' => OpAt W F' o x) := by
 have hk : Kp b.has w0 w1 := by obtain ⟨_, _, _, hk⟩ := h; exact hk
 exact Post.mk3 hb hA h0 h (Kp.refl _ _) (fun F' h1 _ _ => hx.kept (fun k ob hF ho => hk.heap (h0.heap ho (fun e => e)) (hA.ne k hF)) h1)
theorem store_says {w w1 : World} {b : MB} {σ : MemS} {a v : Int} {e : Ending} (h : StoreSays w b σ a v e w1) : ∃ st : Int, e = .returned (.int .i64 st) ∧ Hid (st = if σ.has a then 0 else 2) ∧ Hid (σ.has a → MemPost w b (σ.store a v) w1) ∧ Hid (¬ σ.has a → Kp (fun _ => False) w w1) := by
 by_cases hh : σ.has a
 ·exact ⟨0, (h.1 hh).1, Lib.hid (if_pos hh).symm, Lib.hid (fun _ => (h.1 hh).2), Lib.hid (fun e => absurd hh e)⟩
 ·exact ⟨2, (h.2 hh).1, Lib.hid (if_neg hh).symm, Lib.hid (fun e => absurd e hh), Lib.hid (fun _ => (h.2 hh).2)⟩
theorem op_read (w : World) (b : MB) (σ : MemS) (hb : MemAt w b σ) (hfn : σ.notes.length < 1000000000) (s : Nat) (dv : Value) (r : SrcS) (hs : SrcAt w s dv r) (F : Nat → Prop) (hA : Apart w b F) (ha : SApart b F s dv) (o : Nat) (x : OpS) (hx : OpAt w F o x) (a : Int) (hp : x.part = .acc a false) :
  Calls Tryz.prog 232 #[.pointer (some ⟨o, 0, none⟩), .pointer (some ⟨b.m, 0, none⟩)] w (NextPost F w b s dv o (x.next σ r)) := by
 have e : x.next σ r = (if σ.has a then (OpS.back { x with v := σ.get a }, σ.load a, r, 0) else (x, σ, r, 5)) := by unfold OpS.next; rw [hp]
 obtain ⟨sv, pv, P, ho, hsh, hpa, hP⟩ := hx.obj
 have hpa' : PartAt w P pv (.acc a false) := hp ▸ hpa
 have hpv : pv = .iface 361 (.agg #[.int .i64 a, .bool false]) := hpa'
 subst hpv
 have c14 : w.cell? ⟨o, 14, none⟩ = some (.iface 361 (.agg #[.int .i64 a, .bool false])) := (obj_cells ho).1 14
 have has := fun W => assert_struct1 (P := Tryz.prog) (w := W) 361 20 (.agg #[.int .i64 a, .bool false]) Tryz.underlying361
 have HRES := Lib.hid (fun (w0 w1 : World) (σ' : MemS) (h0 : Kp (fun _ => False) w w0) (h : MemPost w0 b σ' w1) => OPost.then hb hs hA ha hx.own ((MemPost.op hb hA hx h0 h).src hs ha : OPost F w b s dv σ' r w1 (fun W F' => OpAt W F' o x)))
 have HRES0 := Lib.hid (fun (w1 : World) (h0 : Kp (fun _ => False) w w1) => ((Post.mk0 hb hA (h0.mono (fun _ e => e.elim)) (fun F' h1 h2 => hx.kept (fun k ob hF ho => h0.heap ho (fun e => e)) h1)).src hs ha : OPost F w b s dv σ r w1 (fun W F' => OpAt W F' o x)))
 have HO := Lib.hid ho
 have HB := Lib.hid hb
 have hrv := hx.rv
 obtain ⟨Q, hQ⟩ : ∃ Q : OpS × MemS × SrcS × Int, Q = (if σ.has a then (OpS.back { x with v := σ.get a }, σ.load a, r, 0) else (x, σ, r, 5)) := ⟨_, rfl⟩
 rw [e, ← hQ]
 have HQ := Lib.hid hQ
 clear hQ e hsh hpa hpa' hP hs hA ha ho hx hb hp
 go_enter Tryz.func232, Tryz.ntmps232
 go_wp2_with fail
 refine any_world (p := fun W => Calls Tryz.prog _ _ W _) ?_
 intro W hW
 have hk0 : Kp (fun _ => False) w W := by rw [hW]; exact (Kp.refl _ _).alloc _
 have hO : W.heap[w.heap.size]? = some (.cells #[.int .i64 a, .bool false] 361 (0, 0)) := by rw [hW]; exact hp_new _ _ _ rfl
 have HB0 := Lib.hid (HB.out.same hk0)
 have HK0 := Lib.hid hk0
 have HOA := Lib.hid (hk0.heap HO.out (fun e => e))
 obtain ⟨q, _, _⟩ := obj_cells hO
 have b1 : W.cell? ⟨w.heap.size, 1, none⟩ = some (.bool false) := q 1
 have b0 : W.cell? ⟨w.heap.size, 0, none⟩ = some (.int .i64 a) := q 0
 clear hW hk0 hO q c14 has HB HO
 have hld := mem_load W b σ HB0.out hfn a
 have hgr : σ.has a → 0 ≤ σ.get a ∧ σ.get a < 18446744073709551616 := fun h => by
  have hm := HB0.out.range
  unfold MemS.has at h
  unfold MemS.get
  have hlt : a.toNat < σ.words.length := by omega
  exact hm _ (by rw [List.getD_eq_getElem?_getD, List.getElem?_eq_getElem hlt]; exact List.getElem_mem _)
 have HGR := Lib.hid hgr
 clear hgr
 refine hld.mono ?_
 rintro e w1 hsays
 by_cases hh : σ.has a
 ·have hQ : Q = (OpS.back { x with v := σ.get a }, σ.load a, r, 0) := by rw [HQ.out, if_pos hh]
  subst hQ
  obtain ⟨rfl, hmp⟩ := hsays.1 hh
  obtain ⟨F1, hx1, hlt1, hfin⟩ := HRES.out W w1 _ HK0.out hmp
  obtain ⟨sv1, pv1, P1, ho1, _, _, _⟩ := hx1.obj
  have c11 : w1.cell? ⟨o, 11, none⟩ = some (.int .u64 x.v) := (obj_cells ho1).1 11
  have f11 : w1.frozen? ⟨o, 11, none⟩ = false := (obj_cells ho1).2.1 11
  have HX2 := Lib.hid (fun (V : World) (hV : V = w1.setCell ⟨o, 11, none⟩ (.int .u64 (σ.get a))) => (show OpAt V F1 o { x with v := σ.get a } ∧ Kp (fun k => k = o) w1 V ∧ V.heap.size = w1.heap.size from by
   subst hV
   exact ⟨hx1.put (y := { x with v := σ.get a }) 11 (.int .u64 (σ.get a)) (fun _ _ => rfl) rfl rfl rfl rfl (HGR.out hh) hx1.ri, Kp.st (S := fun k => k = o) (Kp.refl _ _) (.inl rfl) 11 _, by simp [World.setCell]⟩))
  have HLT1 := Lib.hid hlt1
  have HFIN := Lib.hid hfin
  clear hsays hmp hx1 hlt1 hfin ho1 hld b0 b1 HQ hh
  go_wp2_with fail
  refine any_world (p := fun W => Calls Tryz.prog _ _ W _) ?_
  intro W2 hW2
  obtain ⟨hx2, hk2, hsz2⟩ := HX2.out W2 hW2
  have hbk := op_back W2 F1 o _ hx2 (fun k hk => by rw [hsz2]; exact HLT1.out k hk)
  have HK2 := Lib.hid hk2
  have HSZ2 := Lib.hid hsz2
  clear hW2 HX2 hx2 hk2 hsz2 c11 f11
  refine hbk.mono ?_
  rintro e w3 ⟨rfl, hm⟩
  have HM := Lib.hid hm
  clear hm hbk
  go_wp2
  go_ret
  exact ⟨rfl, HFIN.out _ _ (OpMore.base HK2.out HSZ2.out HM.out)⟩
 ·have hQ : Q = (x, σ, r, 5) := by rw [HQ.out, if_neg hh]
  subst hQ
  obtain ⟨rfl, hk1⟩ := hsays.2 hh
  have HF := Lib.hid (HRES0.out w1 (HK0.out.also hk1))
  clear hsays hk1 hld b0 b1 HQ hh
  go_wp2
  go_ret
  exact ⟨rfl, HF.out⟩
theorem op_write (w : World) (b : MB) (σ : MemS) (hb : MemAt w b σ) (hfn : σ.notes.length < 1000000000) (s : Nat) (dv : Value) (r : SrcS) (hs : SrcAt w s dv r) (F : Nat → Prop) (hA : Apart w b F) (ha : SApart b F s dv) (o : Nat) (x : OpS) (hx : OpAt w F o x) (a : Int) (hp : x.part = .acc a true) :
  Calls Tryz.prog 232 #[.pointer (some ⟨o, 0, none⟩), .pointer (some ⟨b.m, 0, none⟩)] w (NextPost F w b s dv o (x.next σ r)) := by
 have e : x.next σ r = (if σ.has a then (x.core, σ.store a x.v, r, 0) else (x, σ, r, 5)) := by unfold OpS.next; rw [hp]
 obtain ⟨sv, pv, P, ho, hsh, hpa, hP⟩ := hx.obj
 have hpa' : PartAt w P pv (.acc a true) := hp ▸ hpa
 have hpv : pv = .iface 361 (.agg #[.int .i64 a, .bool true]) := hpa'
 subst hpv
 have c14 : w.cell? ⟨o, 14, none⟩ = some (.iface 361 (.agg #[.int .i64 a, .bool true])) := (obj_cells ho).1 14
 have has := fun W => assert_struct1 (P := Tryz.prog) (w := W) 361 20 (.agg #[.int .i64 a, .bool true]) Tryz.underlying361
 have HRES := Lib.hid (fun (w0 w1 : World) (σ' : MemS) (h0 : Kp (fun _ => False) w w0) (h : MemPost w0 b σ' w1) => OPost.then hb hs hA ha hx.own ((MemPost.op hb hA hx h0 h).src hs ha : OPost F w b s dv σ' r w1 (fun W F' => OpAt W F' o x)))
 have HRES0 := Lib.hid (fun (w1 : World) (h0 : Kp (fun _ => False) w w1) => ((Post.mk0 hb hA (h0.mono (fun _ e => e.elim)) (fun F' h1 h2 => hx.kept (fun k ob hF ho => h0.heap ho (fun e => e)) h1)).src hs ha : OPost F w b s dv σ r w1 (fun W F' => OpAt W F' o x)))
 have HO := Lib.hid ho
 have HB := Lib.hid hb
 have hrv := hx.rv
 have hnb : ¬ b.has w.heap.size ∧ ¬ b.has o := ⟨fun e => Nat.lt_irrefl _ (hb.lt _ e), hA.ne o hx.own⟩
 obtain ⟨Q, hQ⟩ : ∃ Q : OpS × MemS × SrcS × Int, Q = (if σ.has a then (x.core, σ.store a x.v, r, 0) else (x, σ, r, 5)) := ⟨_, rfl⟩
 rw [e, ← hQ]
 have HQ := Lib.hid hQ
 clear hQ e hsh hpa hpa' hP hs hA ha ho hx hb hp
 go_enter Tryz.func232, Tryz.ntmps232
 go_wp2_with fail
 refine wp_world ?_
 intro W hW
 have hk0 : Kp (fun _ => False) w W := by rw [hW]; exact (Kp.refl _ _).alloc _
 have hO : W.heap[w.heap.size]? = some (.cells #[.int .i64 a, .bool true] 361 (0, 0)) := by rw [hW]; exact hp_new _ _ _ rfl
 have HB0 := Lib.hid (HB.out.same hk0)
 have HK0 := Lib.hid hk0
 have HOA := Lib.hid (hk0.heap HO.out (fun e => e))
 obtain ⟨q, _, _⟩ := obj_cells hO
 have b1 : W.cell? ⟨w.heap.size, 1, none⟩ = some (.bool true) := q 1
 have b0 : W.cell? ⟨w.heap.size, 0, none⟩ = some (.int .i64 a) := q 0
 clear hW hk0 hO q c14 has HB HO
 have hstr := mem_store W.drew b σ (HB0.out.same (Kp.refl _ _).drew) hfn a x.v hrv
 have b11 : W.cell? ⟨o, 11, none⟩ = some (.int .u64 x.v) := (obj_cells HOA.out).1 11
 have HSTR := Lib.hid hstr
 have HBB := Lib.hid (fun (w1 : World) (h1 : Hid (σ.has a → MemPost W.drew b (σ.store a x.v) w1)) (h2 : Hid (¬ σ.has a → Kp (fun _ => False) W.drew w1)) => (show w1.cell? ⟨w.heap.size, 0, none⟩ = some (.int .i64 a) ∧ w1.cell? ⟨o, 11, none⟩ = some (.int .u64 x.v) from by
  have hk : Kp b.has W.drew w1 := by
   by_cases hh : σ.has a
   ·obtain ⟨_, _, _, hk⟩ := h1.out hh; exact hk
   ·exact (h2.out hh).mono (fun _ e => e.elim)
  have q1 := hk.cell (show W.drew.cell? ⟨w.heap.size, 0, none⟩ = some (.int .i64 a) from b0) hnb.1
  have q2 := hk.cell (show W.drew.cell? ⟨o, 11, none⟩ = some (.int .u64 x.v) from b11) hnb.2
  exact ⟨q1, q2⟩))
 clear hstr hnb
 go_region_held3 (fun V => V.cell? ⟨w.heap.size, 0, none⟩ = some (.int .i64 a) ∧ V.cell? ⟨o, 11, none⟩ = some (.int .u64 x.v)) (first | exact ⟨b0, b11⟩ | exact hbb)
  ((go_at_call 244; refine HSTR.out.mono ?_; rintro e w1 hsays; obtain ⟨stt, rfl, hstt, hyes, hno⟩ := store_says hsays; have hbb := HBB.out w1 hyes hno; clear hsays))
 by_cases hh : σ.has a
 ·have hz : stt = 0 := by rw [hstt.out, if_pos hh]
  subst hz
  have hQ : Q = (x.core, σ.store a x.v, r, 0) := by rw [HQ.out, if_pos hh]
  subst hQ
  obtain ⟨F1, hx1, hlt1, hfin⟩ := HRES.out W.drew w1 _ HK0.out.drew (hyes.out hh)
  have hco := op_core w1 F1 o x hx1 hlt1
  have HFIN := Lib.hid hfin
  clear hyes hno hx1 hlt1 hfin b0 b1 b11 hstt HQ hh
  go_wp2_with fail
  refine hco.mono ?_
  rintro e w3 ⟨rfl, hm⟩
  have HM := Lib.hid hm
  clear hm hco
  go_wp2
  go_ret
  exact ⟨rfl, HFIN.out _ _ HM.out⟩
 ·have hz : stt = 2 := by rw [hstt.out, if_neg hh]
  subst hz
  have hQ : Q = (x, σ, r, 5) := by rw [HQ.out, if_neg hh]
  subst hQ
  have HF := Lib.hid (HRES0.out w1 (HK0.out.also (Kp.undrew (hno.out hh))))
  clear hyes hno b0 b1 b11 hstt HQ hh
  go_wp2
  go_ret
  exact ⟨rfl, HF.out⟩
end Go.Proofs.YtgdoeoackhfikaaGreatDoor

namespace Go.Proofs.YtgdoeoackhfikaaGreatDoor
open Go.RowKit Go.Proofs.YtgdoeoackhfikaaGreatDoorW.PrintWords
set_option maxRecDepth 100000
set_option maxHeartbeats 4000000
set_option linter.unusedSimpArgs false
set_option linter.unusedVariables false
attribute [local go_sem] hs_other hs_alloc hs_falloc run_store_func run_makeFunc
attribute [local go_sem ↓] Go.wp_at_zero Go.wp_at_succ
theorem op_contended (W : World) (F : Nat → Prop) (o : Nat) (y0 : OpS) (hy0 : OpAt W F o y0) (hlt : ∀ k, F k → k < W.heap.size) :
  Calls Tryz.prog 246 #[.pointer (some ⟨o, 0, none⟩)] W (MorePost W F o y0.contended.1 y0.contended.2) := by
 obtain ⟨y, ey⟩ : ∃ y : OpS, y = { y0 with failed := wrap64 (y0.failed + 1) } := ⟨_, rfl⟩
 have hcon : y0.contended = (if y.failed > y.c.budget ∧ y.push = true then (OpS.back { y with retry := true }, 0) else if y.failed > y.c.budget then (y, 6) else if y.c.l.slots = 0 then (y.core, 0) else ({ y with part := .vis (newElim y.c.l y.pol y.push y.i y.c.base y.c.wait) }, 0)) := by subst ey; rfl
 rw [hcon]
 obtain ⟨Q, hQ⟩ : ∃ Q : OpS × Int, Q = (if y.failed > y.c.budget ∧ y.push = true then (OpS.back { y with retry := true }, 0) else if y.failed > y.c.budget then (y, 6) else if y.c.l.slots = 0 then (y.core, 0) else ({ y with part := .vis (newElim y.c.l y.pol y.push y.i y.c.base y.c.wait) }, 0)) := ⟨_, rfl⟩
 rw [← hQ]
 have HQ := Lib.hid hQ
 clear hQ
 obtain ⟨sv0, pv0, P0, ho0, hsh0, hpa0, hP0⟩ := hy0.obj
 have c13 : W.cell? ⟨o, 13, none⟩ = some (.int .i64 y0.failed) := (obj_cells ho0).1 13
 have f13 : W.frozen? ⟨o, 13, none⟩ = false := (obj_cells ho0).2.1 13
 have HCE : Hid (∀ V : World, V = W.setCell ⟨o, 13, none⟩ (.int .i64 (wrap64 (y0.failed + 1))) → OpAt V F o y ∧ Kp (fun k => k = o) W V ∧ V.heap.size = W.heap.size) := Lib.hid (fun V hV => by
  subst hV ey
  exact ⟨hy0.put 13 _ (fun _ _ => rfl) rfl rfl rfl rfl hy0.rv hy0.ri, Kp.st (S := fun k => k = o) (Kp.refl _ _) (.inl rfl) 13 _, by simp [World.setCell]⟩)
 have HLT := Lib.hid hlt
 clear hcon ey hy0 hsh0 hpa0 hP0 ho0 hlt
 go_enter Tryz.func246, Tryz.ntmps246
 go_wp2_with fail
 refine wp_world ?_
 intro W1 hW1
 have hyk := HCE.out W1 (by rw [hW1])
 clear hW1 HCE c13 f13
 obtain ⟨hy, hk1, hsz1⟩ := hyk
 have hlt1 : ∀ k, F k → k < W1.heap.size := fun k hk => by rw [hsz1]; exact HLT.out k hk
 have HK1 := Lib.hid hk1
 have HSZ1 := Lib.hid hsz1
 have HY := Lib.hid hy
 have HLT1 := Lib.hid hlt1
 obtain ⟨sv, pv, P, ho, hsh, hpa, hP⟩ := hy.obj
 have a13 : W1.cell? ⟨o, 13, none⟩ = some (.int .i64 y.failed) := (obj_cells ho).1 13
 have a4 : W1.cell? ⟨o, 4, none⟩ = some (.int .i64 y.c.budget) := (obj_cells ho).1 4
 have a1 : W1.cell? ⟨o, 1, none⟩ = some (.int .i64 y.c.l.slots) := (obj_cells ho).1 1
 have a10 : W1.cell? ⟨o, 10, none⟩ = some (.bool y.push) := (obj_cells ho).1 10
 have HO := Lib.hid ho
 have HXD : Hid (OpAt W1.drew F o y) := Lib.hid (hy.kept (fun _ _ _ h => h) (fun _ h => h))
 have a16 : W1.cell? ⟨o, 16, none⟩ = some (.bool y.retry) := (obj_cells ho).1 16
 have f16 : W1.frozen? ⟨o, 16, none⟩ = false := (obj_cells ho).2.1 16
 clear HLT hk1 hsz1 hsh hpa hP ho hlt1 hy
 by_cases hf : y.failed > y.c.budget
 ·have d1 : decide (y.c.budget < y.failed) = true := decide_eq_true hf
  cases hp : y.push
  ·have hQ : Q = (y, 6) := by rw [HQ.out, if_neg (fun e => by rw [hp] at e; cases e.2), if_pos hf]
   subst hQ
   rw [hp] at a10
   clear HQ hf hp
   go_region_held3 (fun V => V.cell? ⟨o, 13, none⟩ = some (.int .i64 y.failed) ∧ V.cell? ⟨o, 4, none⟩ = some (.int .i64 y.c.budget) ∧ V.cell? ⟨o, 10, none⟩ = some (.bool false)) (exact ⟨a13, a4, a10⟩) (fail)
   go_wp2_with fail
   go_region_held3 (fun V => V.cell? ⟨o, 13, none⟩ = some (.int .i64 y.failed) ∧ V.cell? ⟨o, 4, none⟩ = some (.int .i64 y.c.budget)) (exact ⟨a13, a4⟩) (fail)
   go_wp2
   go_ret
   exact ⟨rfl, OpMore.base (HK1.out.comp (Kp.refl _ _).drew.drew (fun _ _ e => e)) HSZ1.out (OpMore.refl (HY.out.kept (fun _ _ _ h => h) (fun _ h => h)))⟩
  ·have hQ : Q = (OpS.back { y with retry := true }, 0) := by rw [HQ.out, if_pos ⟨hf, hp⟩]
   subst hQ
   rw [hp] at a10
   clear HQ hf hp
   go_region_held3 (fun V => V.cell? ⟨o, 13, none⟩ = some (.int .i64 y.failed) ∧ V.cell? ⟨o, 4, none⟩ = some (.int .i64 y.c.budget) ∧ V.cell? ⟨o, 10, none⟩ = some (.bool true)) (exact ⟨a13, a4, a10⟩) (fail)
   have HX2 := Lib.hid (fun (V : World) (hV : V = (W1.setCell ⟨o, 16, none⟩ (.bool true)).drew ∨ V = W1.drew.setCell ⟨o, 16, none⟩ (.bool true)) => (show OpAt V F o { y with retry := true } ∧ Kp (fun k => k = o) W1 V ∧ V.heap.size = W1.heap.size from by
    rcases hV with hV | hV
    ·subst hV
     exact ⟨(HY.out.put (y := { y with retry := true }) 16 (.bool true) (fun _ _ => rfl) rfl rfl rfl rfl HY.out.rv HY.out.ri).kept (fun _ _ _ h => h) (fun _ h => h), (Kp.st (S := fun k => k = o) (Kp.refl _ _) (.inl rfl) 16 _).drew, by simp [World.setCell]⟩
    ·subst hV
     exact ⟨HXD.out.put (y := { y with retry := true }) 16 (.bool true) (fun _ _ => rfl) rfl rfl rfl rfl HXD.out.rv HXD.out.ri, Kp.st (S := fun k => k = o) (Kp.refl _ _).drew (.inl rfl) 16 _, by simp [World.setCell]⟩))
   go_wp2_with fail
   refine any_world (p := fun W => Calls Tryz.prog _ _ W _) ?_
   intro W2 hW2
   obtain ⟨hx2, hk2, hsz2⟩ := HX2.out W2 (by first | exact .inl hW2 | exact .inr hW2)
   have hbk := op_back W2 F o _ hx2 (fun k hk => by rw [hsz2]; exact HLT1.out k hk)
   have HK2 := Lib.hid hk2
   have HSZ2 := Lib.hid hsz2
   clear hW2 HX2 hx2 hk2 hsz2 a16 f16 a13 a4 a1 a10
   go_wp2_with fail
   refine hbk.mono ?_
   rintro e w3 ⟨rfl, hm⟩
   have HM := Lib.hid hm
   clear hm hbk
   go_wp2
   go_ret
   exact ⟨rfl, OpMore.base (HK1.out.comp HK2.out (fun _ _ e => e)) (HSZ2.out.trans HSZ1.out) HM.out⟩
 ·have d1 : decide (y.c.budget < y.failed) = false := decide_eq_false hf
  by_cases h0 : y.c.l.slots = 0
  ·have hQ : Q = (y.core, 0) := by rw [HQ.out, if_neg (fun e => hf e.1), if_neg hf, if_pos h0]
   subst hQ
   rw [h0] at a1
   clear HQ hf h0
   go_quiet (fail)
   go_wp2_with fail
   go_region_held3 (fun V => V.cell? ⟨o, 13, none⟩ = some (.int .i64 y.failed) ∧ V.cell? ⟨o, 4, none⟩ = some (.int .i64 y.c.budget)) (exact ⟨a13, a4⟩) (fail)
   go_wp2_with fail
   refine any_world (p := fun W => Calls Tryz.prog _ _ W _) ?_
   intro W2 hW2
   obtain ⟨n2, rfl⟩ : ∃ n, W2 = W1.drewN n := ⟨_, hW2⟩
   clear hW2
   have hco := op_core (W1.drewN n2) F o y (HY.out.kept (fun _ _ _ h => h) (fun _ h => h)) HLT1.out
   refine hco.mono ?_
   rintro e w3 ⟨rfl, hm⟩
   have HM := Lib.hid hm
   clear hm hco
   go_wp2
   go_ret
   exact ⟨rfl, OpMore.base (HK1.out.comp ((Kp.refl _ _).drewN n2) (fun _ _ e => e)) HSZ1.out HM.out⟩
  ·have hQ : Q = ({ y with part := .vis (newElim y.c.l y.pol y.push y.i y.c.base y.c.wait) }, 0) := by rw [HQ.out, if_neg (fun e => hf e.1), if_neg hf, if_neg h0]
   subst hQ
   have t0 : (y.c.l.slots == 0) = false := beq_eq_false_iff_ne.2 h0
   clear HQ hf h0
   go_quiet (fail)
   go_wp2_with fail
   go_region_held3 (fun V => V.cell? ⟨o, 13, none⟩ = some (.int .i64 y.failed) ∧ V.cell? ⟨o, 4, none⟩ = some (.int .i64 y.c.budget)) (exact ⟨a13, a4⟩) (fail)
   go_wp2_with fail
   refine wp_world ?_
   intro W hW
   have hy : OpAt W F o y := by rw [hW]; exact HY.out.kept (fun _ _ _ h => h) (fun _ h => h)
   have hkW : Kp (fun k => k = o) W1 W := by rw [hW]; exact (Kp.refl _ _).drewN _
   have hszW : W.heap.size = W1.heap.size := by rw [hW]; rfl
   clear hW a16 f16 a13 a4 a1 a10 HO HXD
   obtain ⟨sv, pv, P, ho, hsh, hpa, hP⟩ := hy.obj
   have hall : ∀ V : World, Kp (fun _ => False) W V → (V.cell? ⟨o, 0, none⟩ = some (.int .i64 y.c.l.nodes) ∧ V.cell? ⟨o, 1, none⟩ = some (.int .i64 y.c.l.slots) ∧ V.cell? ⟨o, 2, none⟩ = some (.int .i64 y.c.l.holders) ∧ V.cell? ⟨o, 3, none⟩ = some (.int .u32 y.c.l.tag) ∧ V.cell? ⟨o, 5, none⟩ = some (.int .i64 y.c.base) ∧ V.cell? ⟨o, 6, none⟩ = some (.int .u64 y.c.wait) ∧ V.cell? ⟨o, 8, none⟩ = some (.int .i64 y.pol.range) ∧ V.cell? ⟨o, 9, none⟩ = some (.int .i64 y.pol.exp) ∧ V.cell? ⟨o, 10, none⟩ = some (.bool y.push) ∧ V.cell? ⟨o, 12, none⟩ = some (.int .u32 y.i)) := fun V hk => by
    have q := (obj_cells (hk.heap ho (fun e => e))).1
    exact ⟨q 0, q 1, q 2, q 3, q 5, q 6, q 8, q 9, q 10, q 12⟩
   have hall2 : ∀ V : World, Kp (fun _ => False) W V → ∀ u : Value, ((V.setCell ⟨o, 14, none⟩ u).cell? ⟨o, 0, none⟩ = some (.int .i64 y.c.l.nodes) ∧ (V.setCell ⟨o, 14, none⟩ u).cell? ⟨o, 1, none⟩ = some (.int .i64 y.c.l.slots) ∧ (V.setCell ⟨o, 14, none⟩ u).cell? ⟨o, 2, none⟩ = some (.int .i64 y.c.l.holders) ∧ (V.setCell ⟨o, 14, none⟩ u).cell? ⟨o, 3, none⟩ = some (.int .u32 y.c.l.tag) ∧ (V.setCell ⟨o, 14, none⟩ u).cell? ⟨o, 5, none⟩ = some (.int .i64 y.c.base) ∧ (V.setCell ⟨o, 14, none⟩ u).cell? ⟨o, 6, none⟩ = some (.int .u64 y.c.wait) ∧ (V.setCell ⟨o, 14, none⟩ u).cell? ⟨o, 8, none⟩ = some (.int .i64 y.pol.range) ∧ (V.setCell ⟨o, 14, none⟩ u).cell? ⟨o, 9, none⟩ = some (.int .i64 y.pol.exp) ∧ (V.setCell ⟨o, 14, none⟩ u).cell? ⟨o, 10, none⟩ = some (.bool y.push) ∧ (V.setCell ⟨o, 14, none⟩ u).cell? ⟨o, 12, none⟩ = some (.int .u32 y.i)) := fun V hk u => by
    have q := (obj_cells (hp_same _ o 14 u (hk.heap ho (fun e => e)))).1
    exact ⟨q 0, q 1, q 2, q 3, q 5, q 6, q 8, q 9, q 10, q 12⟩
   have hgo : ∀ V : World, Kp (fun _ => False) W V → ∀ (t : TypeId) (v : Value), Calls Tryz.prog 236 #[.pointer (some ⟨o, 0, none⟩), .iface t v] V (fun e w' => e = .returned (.int .i64 0) ∧ w' = V.setCell ⟨o, 14, none⟩ (.iface t v)) := fun V hk t v => op_goes V o t v pv ((obj_cells (hk.heap ho (fun e => e))).1 14) ((obj_cells (hk.heap ho (fun e => e))).2.1 14)
   have hne := fun V => elim_New V y.c.l hy.right.1 y.pol hy.rp y.push y.i y.c.base y.c.wait hy.ri (by have := hy.right.2; omega) hy.rwt
   unfold LCfg.v Pol.v at hne
   have HNE := Lib.hid hne
   have HALL := Lib.hid hall
   have HALL2 := Lib.hid hall2
   have HGO := Lib.hid hgo
   have HYW := Lib.hid hy
   have HKW := Lib.hid hkW
   have HSZW := Lib.hid hszW
   clear hall hall2 hgo ho hsh hpa hP hne hkW hszW hy
   go_region_held3 (fun V => V.cell? ⟨o, 0, none⟩ = some (.int .i64 y.c.l.nodes) ∧ V.cell? ⟨o, 1, none⟩ = some (.int .i64 y.c.l.slots) ∧ V.cell? ⟨o, 2, none⟩ = some (.int .i64 y.c.l.holders) ∧ V.cell? ⟨o, 3, none⟩ = some (.int .u32 y.c.l.tag) ∧ V.cell? ⟨o, 5, none⟩ = some (.int .i64 y.c.base) ∧ V.cell? ⟨o, 6, none⟩ = some (.int .u64 y.c.wait) ∧ V.cell? ⟨o, 8, none⟩ = some (.int .i64 y.pol.range) ∧ V.cell? ⟨o, 9, none⟩ = some (.int .i64 y.pol.exp) ∧ V.cell? ⟨o, 10, none⟩ = some (.bool y.push) ∧ V.cell? ⟨o, 12, none⟩ = some (.int .u32 y.i))
    (first | exact HALL.out _ (Kp.refl _ _) | exact HALL.out _ (Kp.refl _ _).drew | exact HALL.out _ hkA | exact HALL2.out _ hkA _)
    ((first
     | (go_at_call 254; refine (HNE.out W.drew).mono ?_; rintro e w1 ⟨t, rfl, ht, hk1, hel⟩; have hkA := Kp.undrew hk1)
     | (go_at_call 236; refine (HGO.out w1 hkA _ _).mono ?_; rintro e w2 ⟨rfl, rfl⟩)))
   go_wp2
   go_ret
   exact ⟨rfl, OpMore.base (HK1.out.comp HKW.out (fun _ _ e => e)) (HSZW.out.trans HSZ1.out) (HYW.out.newPart (fun k hk => by rw [HSZW.out]; exact HLT1.out k hk) hkA (.vis (newElim y.c.l y.pol y.push y.i y.c.base y.c.wait)) _ ⟨t, rfl, hel⟩)⟩
end Go.Proofs.YtgdoeoackhfikaaGreatDoor

namespace Go.Proofs.YtgdoeoackhfikaaGreatDoor
open Go.RowKit Go.Proofs.YtgdoeoackhfikaaGreatDoorW.PrintWords
set_option maxRecDepth 100000
set_option maxHeartbeats 4000000
set_option linter.unusedSimpArgs false
set_option linter.unusedVariables false
attribute [local go_sem] hs_other hs_alloc hs_falloc run_store_func run_makeFunc
attribute [local go_sem ↓] Go.wp_at_zero Go.wp_at_succ
theorem op_tried_tt (w : World) (b : MB) (σ : MemS) (hb : MemAt w b σ) (hfn : σ.notes.length < 1000000000) (s : Nat) (dv : Value) (r : SrcS) (hs : SrcAt w s dv r) (F : Nat → Prop) (hA : Apart w b F) (ha : SApart b F s dv) (o : Nat) (x : OpS) (hx : OpAt w F o x) (y : TL) (hp : x.part = .tt y) :
  Calls Tryz.prog 233 #[.pointer (some ⟨o, 0, none⟩), .pointer (some ⟨b.m, 0, none⟩)] w (NextPost F w b s dv o (x.next σ r)) := by
 obtain ⟨sv, pv, P, ho, hsh, hpa, hP⟩ := hx.obj
 have hpa' : PartAt w P pv (.tt y) := hp ▸ hpa
 obtain ⟨a, rfl, ht, hk⟩ := hpa'
 have e : x.next σ r = ((OpS.tried { x with part := .tt (y.step σ).1 } (y.step σ).1.st (y.step σ).1.told).1, (y.step σ).2, r, (OpS.tried { x with part := .tt (y.step σ).1 } (y.step σ).1.st (y.step σ).1.told).2) := by unfold OpS.next; rw [hp]
 rw [e]
 have hkT := (step_isTake y σ).trans hk
 have hstep := Take_Step w b σ hb hfn P (hA.part hP) a y ht
 unfold TryPost at hstep
 generalize y.step σ = z at *
 obtain ⟨y', σ'⟩ := z
 dsimp only at hstep hkT ⊢
 have hres := fun (w1 : World) (hpost : Post P w b σ' w1 (fun W F' => TLAt W F' a y')) => OPost.then hb hs hA ha hx.own (((Post.part hb hA hx ho hsh hP (hpost.imp (fun F' h => (show PartAt _ _ _ (.tt y') from ⟨a, rfl, h, hkT⟩)))).src hs ha : OPost F w b s dv σ' r w1 (fun W F' => OpAt W F' o { x with part := .tt y' })))
 have hri : ∀ w1, Post P w b σ' w1 (fun W F' => TLAt W F' a y') → 0 ≤ y'.told ∧ y'.told < 4294967296 := fun w1 h => by
  obtain ⟨_, _, _, _, hx⟩ := h
  have := hx.ri
  unfold TL.told
  split <;> omega
 have c14 : w.cell? ⟨o, 14, none⟩ = some (.iface 324 (.pointer (some ⟨a, 0, none⟩))) := (obj_cells ho).1 14
 have hasrt := takeSteps (.pointer (some ⟨a, 0, none⟩))
 obtain ⟨z, hz⟩ : ∃ z : OpS, z = { x with part := .tt y' } := ⟨_, rfl⟩
 rw [← hz] at hres ⊢
 have hzp : z.push = x.push := by rw [hz]
 obtain ⟨st, hst⟩ : ∃ st, st = y'.st := ⟨_, rfl⟩
 obtain ⟨tl, htl⟩ : ∃ tl, tl = y'.told := ⟨_, rfl⟩
 rw [← hst, ← htl] at hstep ⊢
 rw [← htl] at hri
 obtain ⟨Q, hQ⟩ : ∃ Q : OpS × Int, Q = z.tried st tl := ⟨_, rfl⟩
 rw [← hQ]
 have HQ := Lib.hid hQ
 have HST := Lib.hid hstep
 have HRES := Lib.hid hres
 have HRI := Lib.hid hri
 have HZP := Lib.hid hzp
 clear e hstep hres hsh hpa hP ho ht hp hs hb hA ha hx hri hkT hk hz hst htl hzp hQ
 go_enter Tryz.func233, Tryz.ntmps233
 go_wp2_with fail
 refine HST.out.mono ?_
 rintro e w1 ⟨rfl, hpost⟩
 obtain ⟨F1, hx1, hlt1, hfin⟩ := HRES.out w1 hpost
 have hri := HRI.out w1 hpost
 have HX1 := Lib.hid hx1
 have HLT1 := Lib.hid hlt1
 have HFIN := Lib.hid hfin
 clear hpost hx1 hlt1 hfin HST HRES HRI c14 hasrt
 by_cases h3 : st = 3
 ·subst h3
  have hQ : Q = z.contended := by rw [HQ.out]; unfold OpS.tried; rw [if_pos rfl]
  subst hQ
  clear HQ
  have hcn := op_contended w1 F1 o z HX1.out HLT1.out
  go_wp2_with fail
  refine hcn.mono ?_
  rintro e w3 ⟨rfl, hm⟩
  have HM := Lib.hid hm
  clear hm hcn
  go_wp2
  go_ret
  exact ⟨rfl, HFIN.out _ _ HM.out⟩
 have t3 : (st == 3) = false := beq_eq_false_iff_ne.2 h3
 by_cases h1 : st = 1
 ·subst h1
  have hQ0 : Q = (if z.push then ({ z with i := 0 }, 1) else (z.has tl, 0)) := by rw [HQ.out]; unfold OpS.tried; rw [if_neg (by decide), if_neg (fun e => e rfl)]
  clear h3 t3 HQ
  obtain ⟨sv1, pv1, P1, ho1, _, _, _⟩ := HX1.out.obj
  have c10 : w1.cell? ⟨o, 10, none⟩ = some (.bool z.push) := (obj_cells ho1).1 10
  have c12 : w1.cell? ⟨o, 12, none⟩ = some (.int .u32 z.i) := (obj_cells ho1).1 12
  have f12 : w1.frozen? ⟨o, 12, none⟩ = false := (obj_cells ho1).2.1 12
  clear ho1
  cases hpp : z.push
  ·rw [hpp] at c10
   have hQ : Q = (z.has tl, 0) := by rw [hQ0, hpp]; rfl
   subst hQ
   clear hQ0
   have hha := op_has w1 F1 o z HX1.out HLT1.out tl hri
   clear c12 f12 hpp
   go_wp2_with fail
   refine hha.mono ?_
   rintro e w3 ⟨rfl, hm⟩
   have HM := Lib.hid hm
   clear hm hha
   go_wp2
   go_ret
   exact ⟨rfl, HFIN.out _ _ HM.out⟩
  ·rw [hpp] at c10
   have hQ : Q = ({ z with i := 0 }, 1) := by rw [hQ0, hpp]; rfl
   subst hQ
   clear hQ0
   have hx2 := HX1.out.put (y := { z with i := 0 }) 12 (.int .u32 0) (fun _ _ => rfl) rfl rfl rfl rfl HX1.out.rv (show (0 : Int) ≤ 0 ∧ (0 : Int) < 4294967296 by decide)
   have hk2 : Kp (fun k => k = o) w1 (w1.setCell ⟨o, 12, none⟩ (.int .u32 0)) := Kp.st (S := fun k => k = o) (Kp.refl _ _) (.inl rfl) 12 _
   have hsz2 : (w1.setCell ⟨o, 12, none⟩ (.int .u32 0)).heap.size = w1.heap.size := by simp [World.setCell]
   have HEND := Lib.hid (HFIN.out _ _ (OpMore.base hk2 hsz2 (OpMore.refl hx2)))
   clear hx2 hk2 hsz2 hpp
   go_wp2
   go_ret
   exact ⟨rfl, HEND.out⟩
 ·have hQ : Q = (z, st) := by rw [HQ.out]; unfold OpS.tried; rw [if_neg h3, if_pos h1]
  subst hQ
  clear HQ
  have t1 : (st != 1) = true := by rw [bne_iff_ne]; exact h1
  have HEND := Lib.hid (HFIN.out _ _ (OpMore.refl HX1.out))
  clear h1 h3
  go_wp2
  go_ret
  exact ⟨rfl, HEND.out⟩
theorem op_tried_tg (w : World) (b : MB) (σ : MemS) (hb : MemAt w b σ) (hfn : σ.notes.length < 1000000000) (s : Nat) (dv : Value) (r : SrcS) (hs : SrcAt w s dv r) (F : Nat → Prop) (hA : Apart w b F) (ha : SApart b F s dv) (o : Nat) (x : OpS) (hx : OpAt w F o x) (y : TL) (hp : x.part = .tg y) :
  Calls Tryz.prog 233 #[.pointer (some ⟨o, 0, none⟩), .pointer (some ⟨b.m, 0, none⟩)] w (NextPost F w b s dv o (x.next σ r)) := by
 obtain ⟨sv, pv, P, ho, hsh, hpa, hP⟩ := hx.obj
 have hpa' : PartAt w P pv (.tg y) := hp ▸ hpa
 obtain ⟨a, rfl, ht, hk⟩ := hpa'
 have e : x.next σ r = ((OpS.tried { x with part := .tg (y.step σ).1 } (y.step σ).1.st (y.step σ).1.told).1, (y.step σ).2, r, (OpS.tried { x with part := .tg (y.step σ).1 } (y.step σ).1.st (y.step σ).1.told).2) := by unfold OpS.next; rw [hp]
 rw [e]
 have hkT := (step_isTake y σ).trans hk
 have hstep := Give_Step w b σ hb hfn P (hA.part hP) a y ht
 unfold TryPost at hstep
 generalize y.step σ = z at *
 obtain ⟨y', σ'⟩ := z
 dsimp only at hstep hkT ⊢
 have hres := fun (w1 : World) (hpost : Post P w b σ' w1 (fun W F' => TLAt W F' a y')) => OPost.then hb hs hA ha hx.own (((Post.part hb hA hx ho hsh hP (hpost.imp (fun F' h => (show PartAt _ _ _ (.tg y') from ⟨a, rfl, h, hkT⟩)))).src hs ha : OPost F w b s dv σ' r w1 (fun W F' => OpAt W F' o { x with part := .tg y' })))
 have hri : ∀ w1, Post P w b σ' w1 (fun W F' => TLAt W F' a y') → 0 ≤ y'.told ∧ y'.told < 4294967296 := fun w1 h => by
  obtain ⟨_, _, _, _, hx⟩ := h
  have := hx.ri
  unfold TL.told
  split <;> omega
 have c14 : w.cell? ⟨o, 14, none⟩ = some (.iface 379 (.pointer (some ⟨a, 0, none⟩))) := (obj_cells ho).1 14
 have hasrt := giveSteps (.pointer (some ⟨a, 0, none⟩))
 obtain ⟨z, hz⟩ : ∃ z : OpS, z = { x with part := .tg y' } := ⟨_, rfl⟩
 rw [← hz] at hres ⊢
 have hzp : z.push = x.push := by rw [hz]
 obtain ⟨st, hst⟩ : ∃ st, st = y'.st := ⟨_, rfl⟩
 obtain ⟨tl, htl⟩ : ∃ tl, tl = y'.told := ⟨_, rfl⟩
 rw [← hst, ← htl] at hstep ⊢
 rw [← htl] at hri
 obtain ⟨Q, hQ⟩ : ∃ Q : OpS × Int, Q = z.tried st tl := ⟨_, rfl⟩
 rw [← hQ]
 have HQ := Lib.hid hQ
 have HST := Lib.hid hstep
 have HRES := Lib.hid hres
 have HRI := Lib.hid hri
 have HZP := Lib.hid hzp
 clear e hstep hres hsh hpa hP ho ht hp hs hb hA ha hx hri hkT hk hz hst htl hzp hQ
 go_enter Tryz.func233, Tryz.ntmps233
 go_wp2_with fail
 refine HST.out.mono ?_
 rintro e w1 ⟨rfl, hpost⟩
 obtain ⟨F1, hx1, hlt1, hfin⟩ := HRES.out w1 hpost
 have hri := HRI.out w1 hpost
 have HX1 := Lib.hid hx1
 have HLT1 := Lib.hid hlt1
 have HFIN := Lib.hid hfin
 clear hpost hx1 hlt1 hfin HST HRES HRI c14 hasrt
 by_cases h3 : st = 3
 ·subst h3
  have hQ : Q = z.contended := by rw [HQ.out]; unfold OpS.tried; rw [if_pos rfl]
  subst hQ
  clear HQ
  have hcn := op_contended w1 F1 o z HX1.out HLT1.out
  go_wp2_with fail
  refine hcn.mono ?_
  rintro e w3 ⟨rfl, hm⟩
  have HM := Lib.hid hm
  clear hm hcn
  go_wp2
  go_ret
  exact ⟨rfl, HFIN.out _ _ HM.out⟩
 have t3 : (st == 3) = false := beq_eq_false_iff_ne.2 h3
 by_cases h1 : st = 1
 ·subst h1
  have hQ0 : Q = (if z.push then ({ z with i := 0 }, 1) else (z.has tl, 0)) := by rw [HQ.out]; unfold OpS.tried; rw [if_neg (by decide), if_neg (fun e => e rfl)]
  clear h3 t3 HQ
  obtain ⟨sv1, pv1, P1, ho1, _, _, _⟩ := HX1.out.obj
  have c10 : w1.cell? ⟨o, 10, none⟩ = some (.bool z.push) := (obj_cells ho1).1 10
  have c12 : w1.cell? ⟨o, 12, none⟩ = some (.int .u32 z.i) := (obj_cells ho1).1 12
  have f12 : w1.frozen? ⟨o, 12, none⟩ = false := (obj_cells ho1).2.1 12
  clear ho1
  cases hpp : z.push
  ·rw [hpp] at c10
   have hQ : Q = (z.has tl, 0) := by rw [hQ0, hpp]; rfl
   subst hQ
   clear hQ0
   have hha := op_has w1 F1 o z HX1.out HLT1.out tl hri
   clear c12 f12 hpp
   go_wp2_with fail
   refine hha.mono ?_
   rintro e w3 ⟨rfl, hm⟩
   have HM := Lib.hid hm
   clear hm hha
   go_wp2
   go_ret
   exact ⟨rfl, HFIN.out _ _ HM.out⟩
  ·rw [hpp] at c10
   have hQ : Q = ({ z with i := 0 }, 1) := by rw [hQ0, hpp]; rfl
   subst hQ
   clear hQ0
   have hx2 := HX1.out.put (y := { z with i := 0 }) 12 (.int .u32 0) (fun _ _ => rfl) rfl rfl rfl rfl HX1.out.rv (show (0 : Int) ≤ 0 ∧ (0 : Int) < 4294967296 by decide)
   have hk2 : Kp (fun k => k = o) w1 (w1.setCell ⟨o, 12, none⟩ (.int .u32 0)) := Kp.st (S := fun k => k = o) (Kp.refl _ _) (.inl rfl) 12 _
   have hsz2 : (w1.setCell ⟨o, 12, none⟩ (.int .u32 0)).heap.size = w1.heap.size := by simp [World.setCell]
   have HEND := Lib.hid (HFIN.out _ _ (OpMore.base hk2 hsz2 (OpMore.refl hx2)))
   clear hx2 hk2 hsz2 hpp
   go_wp2
   go_ret
   exact ⟨rfl, HEND.out⟩
 ·have hQ : Q = (z, st) := by rw [HQ.out]; unfold OpS.tried; rw [if_neg h3, if_pos h1]
  subst hQ
  clear HQ
  have t1 : (st != 1) = true := by rw [bne_iff_ne]; exact h1
  have HEND := Lib.hid (HFIN.out _ _ (OpMore.refl HX1.out))
  clear h1 h3
  go_wp2
  go_ret
  exact ⟨rfl, HEND.out⟩
end Go.Proofs.YtgdoeoackhfikaaGreatDoor

namespace Go.Proofs.YtgdoeoackhfikaaGreatDoor
open Go.RowKit Go.Proofs.YtgdoeoackhfikaaGreatDoorW.PrintWords
set_option maxRecDepth 100000
set_option maxHeartbeats 4000000
set_option linter.unusedSimpArgs false
set_option linter.unusedVariables false
attribute [local go_sem] hs_other hs_alloc hs_falloc run_store_func run_makeFunc
attribute [local go_sem ↓] Go.wp_at_zero Go.wp_at_succ
theorem elv_told_range {w : World} {F : Nat → Prop} {a : Nat} {v : ElV} {σ : MemS} {r : SrcS} (h : ElAt w F a (v.step σ r).1) : 0 ≤ (v.step σ r).2.2.2.2 ∧ (v.step σ r).2.2.2.2 < 4294967296 := by
 have hon : ∀ (z : ElV) (e : EV) (now : Int), ElAt w F a (z.on e σ now).1 → 0 ≤ (e.step σ now).1.told ∧ (e.step σ now).1.told < 4294967296 := fun z e now h => by
  obtain ⟨pv, fv, _, hin⟩ := h.obj
  unfold InnerAt at hin
  have hv : (z.on e σ now).1.v = some (e.step σ now).1 := by unfold ElV.on; dsimp only; split <;> rfl
  rw [hv] at hin
  obtain ⟨t, _, het⟩ := hin
  have := het.ri
  unfold EV.told
  split <;> omega
 unfold ElV.step at h ⊢
 split
 ·exact (show (0 : Int) ≤ 0 ∧ (0 : Int) < 4294967296 by decide)
 ·rename_i he
  rw [if_neg he] at h
  split
  ·rename_i e hv
   rw [hv] at h
   exact hon _ _ _ h
  ·rename_i hv
   rw [hv] at h
   dsimp only at h
   split
   ·exact (show (0 : Int) ≤ 0 ∧ (0 : Int) < 4294967296 by decide)
   ·rename_i hc
    rw [if_neg hc] at h
    exact hon _ _ _ h
theorem OPost.elv {P : Nat → Prop} {w w1 : World} {b : MB} {s : Nat} {dv : Value} {σ' : MemS} {r' : SrcS} {a : Nat} {v : ElV} (h : OPost P w b s dv σ' r' w1 (fun W F' => ElAt W F' a v)) : ∃ Q : Nat → Prop, ElAt w1 Q a v := by
 obtain ⟨nv', dv', _, _, _, _, _, hx⟩ := h
 exact ⟨_, hx⟩
theorem op_visited (w : World) (b : MB) (σ : MemS) (hb : MemAt w b σ) (hfn : σ.notes.length < 1000000000) (s : Nat) (dv : Value) (r : SrcS) (hs : SrcAt w s dv r) (F : Nat → Prop) (hA : Apart w b F) (ha : SApart b F s dv) (o : Nat) (x : OpS) (hx : OpAt w F o x) (v : ElV) (hp : x.part = .vis v) (hc : v.c = x.c.l) (h0 : v.c.slots ≠ 0) :
  Calls Tryz.prog 231 #[.pointer (some ⟨o, 0, none⟩), .pointer (some ⟨b.m, 0, none⟩), .pointer (some ⟨s, 0, none⟩)] w (NextPost F w b s dv o (x.next σ r)) := by
 obtain ⟨sv, pv, P, ho, hsh, hpa, hP⟩ := hx.obj
 have hpa' : PartAt w P pv (.vis v) := hp ▸ hpa
 obtain ⟨a, rfl, ht⟩ := hpa'
 have e : x.next σ r = ((OpS.visited { x with part := .vis (v.step σ r).1, pol := (v.step σ r).1.s } (v.step σ r).2.2.2.1 (v.step σ r).2.2.2.2).1, (v.step σ r).2.1, (v.step σ r).2.2.1, (OpS.visited { x with part := .vis (v.step σ r).1, pol := (v.step σ r).1.s } (v.step σ r).2.2.2.1 (v.step σ r).2.2.2.2).2) := by unfold OpS.next; rw [hp]
 rw [e]
 have hvc : (v.step σ r).1.c = x.c.l := (elv_step_c v σ r).trans hc
 have hstep := elim_Step w b σ hb hfn s dv r hs P (hA.part hP) (fun k hk => ⟨fun e => (ha k hk).1 (hP k e).1, (ha k hk).2⟩) a v ht h0
 have htold := fun (w1 : World) (h : OPost P w b s dv (v.step σ r).2.1 (v.step σ r).2.2.1 w1 (fun W F' => ElAt W F' a (v.step σ r).1)) => (show 0 ≤ (v.step σ r).2.2.2.2 ∧ (v.step σ r).2.2.2.2 < 4294967296 from by obtain ⟨Q, hq⟩ := h.elv; exact elv_told_range hq)
 unfold ElPost at hstep
 generalize v.step σ r = y at *
 obtain ⟨v', σ', r', st, tl⟩ := y
 dsimp only at hstep hvc htold ⊢
 have hres := fun (w1 : World) (hpost : OPost P w b s dv σ' r' w1 (fun W F' => ElAt W F' a v')) => OPost.then hb hs hA ha hx.own (OPost.part hb hs hA ha hx ho hsh hP (p := .vis v') (by
  obtain ⟨nv', dv', h1, h2, h3, h4, h5, h6⟩ := hpost
  exact ⟨nv', dv', h1, h2, h3, h4, h5, (show PartAt _ _ _ (.vis v') from ⟨a, rfl, h6⟩)⟩))
 have c14 : w.cell? ⟨o, 14, none⟩ = some (.iface 359 (.pointer (some ⟨a, 0, none⟩))) := (obj_cells ho).1 14
 have has := fun W => assert_pointer1 (P := Tryz.prog) (w := W) 359 20 (.pointer (some ⟨a, 0, none⟩)) Tryz.underlying359
 obtain ⟨z, hz⟩ : ∃ z : OpS, z = { x with part := .vis v', pol := v'.s } := ⟨_, rfl⟩
 rw [← hz]
 have HZ := Lib.hid hz
 obtain ⟨Q, hQ⟩ : ∃ Q : OpS × Int, Q = z.visited st tl := ⟨_, rfl⟩
 rw [← hQ]
 have HQ := Lib.hid hQ
 have HST := Lib.hid hstep
 have HRES := Lib.hid hres
 have HTO := Lib.hid htold
 have HVC := Lib.hid hvc
 clear e hstep hres hsh hpa hP ho ht hp hs hb hA ha hx hz hQ htold hc hvc h0
 go_enter Tryz.func231, Tryz.ntmps231
 go_wp2_with fail
 refine HST.out.mono ?_
 rintro e w1 ⟨rfl, hpost⟩
 obtain ⟨F1, hx1, hlt1, hfin⟩ := HRES.out w1 hpost
 obtain ⟨Qv, hel⟩ := hpost.elv
 have hri := HTO.out w1 hpost
 have hsf := elim_State w1 Qv a v' hel
 have hpr : v'.s.right x.c.l.slots := by rw [← HVC.out]; exact hel.rs
 obtain ⟨sv1, pv1, P1, ho1, _, _, _⟩ := hx1.obj
 have HX1 := Lib.hid hx1
 have HLT1 := Lib.hid hlt1
 have HFIN := Lib.hid hfin
 have HO1 := Lib.hid ho1
 have HPR := Lib.hid hpr
 unfold Pol.v at hsf
 clear hpost hel hx1 hlt1 hfin HST HRES HTO HVC c14 has ho1 hpr
 go_wp2_with fail
 refine hsf.mono ?_
 rintro e w2 ⟨rfl, hk2⟩
 have ho2 := hk2.heap HO1.out (fun e => e)
 have c8 : w2.cell? ⟨o, 8, none⟩ = some (.int .i64 x.pol.range) := (obj_cells ho2).1 8
 have f8 : w2.frozen? ⟨o, 8, none⟩ = false := (obj_cells ho2).2.1 8
 have c9 : (w2.setCell ⟨o, 8, none⟩ (.int .i64 v'.s.range)).cell? ⟨o, 9, none⟩ = some (.int .i64 x.pol.exp) := (obj_cells (hp_same _ o 8 _ ho2)).1 9
 have f9 : (w2.setCell ⟨o, 8, none⟩ (.int .i64 v'.s.range)).frozen? ⟨o, 9, none⟩ = false := (obj_cells (hp_same _ o 8 _ ho2)).2.1 9
 have hm3 : OpMore w1 F1 o z ((w2.setCell ⟨o, 8, none⟩ (.int .i64 v'.s.range)).setCell ⟨o, 9, none⟩ (.int .i64 v'.s.exp)) := by
  rw [HZ.out]
  have h2 : OpAt w2 (fun k => F1 k ∨ (w1.heap.size ≤ k ∧ k < w2.heap.size)) o { x with part := .vis v' } := HX1.out.kept (fun k ob _ ho => hk2.heap ho (fun e => e)) (fun _ h => .inl h)
  exact OpMore.at (w1 := w2) (y := { x with part := .vis v' }) ⟨hk2.mono (fun _ e => e.elim), h2⟩ (Kp.st (S := fun k => k = o) (Kp.st (S := fun k => k = o) (Kp.refl _ _) (.inl rfl) 8 _) (.inl rfl) 9 _) (by simp [World.setCell]) (h2.putPol v'.s HPR.out)
 have HM3 := Lib.hid hm3
 have HLT3 := Lib.hid (hm3.lt HLT1.out)
 obtain ⟨sv3, pv3, P3, ho3, _, _, _⟩ := hm3.2.obj
 have d10 : ((w2.setCell ⟨o, 8, none⟩ (.int .i64 v'.s.range)).setCell ⟨o, 9, none⟩ (.int .i64 v'.s.exp)).cell? ⟨o, 10, none⟩ = some (.bool z.push) := (obj_cells ho3).1 10
 have d12 : ((w2.setCell ⟨o, 8, none⟩ (.int .i64 v'.s.range)).setCell ⟨o, 9, none⟩ (.int .i64 v'.s.exp)).cell? ⟨o, 12, none⟩ = some (.int .u32 z.i) := (obj_cells ho3).1 12
 have g12 : ((w2.setCell ⟨o, 8, none⟩ (.int .i64 v'.s.range)).setCell ⟨o, 9, none⟩ (.int .i64 v'.s.exp)).frozen? ⟨o, 12, none⟩ = false := (obj_cells ho3).2.1 12
 have hco := op_core _ _ o z hm3.2 HLT3.out
 have hha := op_has _ _ o z hm3.2 HLT3.out tl hri
 have HCO := Lib.hid hco
 have HHA := Lib.hid hha
 clear hsf ho2 hk2 HO1 hm3 ho3 hco hha HX1 HPR
 by_cases s05 : st = 0 ∨ st = 5
 ·have hQ : Q = (z, st) := by rw [HQ.out]; unfold OpS.visited; rw [if_pos s05]
  subst hQ
  have HEND := Lib.hid (HFIN.out _ _ HM3.out)
  clear HQ
  rcases s05 with rfl | rfl
  ·go_wp2
   go_ret
   exact ⟨rfl, HEND.out⟩
  ·go_wp2
   go_ret
   exact ⟨rfl, HEND.out⟩
 have t0 : (st == 0) = false := beq_eq_false_iff_ne.2 (fun e => s05 (.inl e))
 have t5 : (st == 5) = false := beq_eq_false_iff_ne.2 (fun e => s05 (.inr e))
 by_cases h1 : st = 1
 ·subst h1
  have hQ0 : Q = (if z.push then ({ z with i := 0 }, 1) else (z.has tl, 0)) := by rw [HQ.out]; unfold OpS.visited; rw [if_neg s05, if_neg (fun e => e rfl)]
  clear t0 t5 HQ s05
  cases hpp : z.push
  ·rw [hpp] at d10
   have hQ : Q = (z.has tl, 0) := by rw [hQ0, hpp]; rfl
   subst hQ
   clear hQ0 hpp d12 g12
   go_wp2_with fail
   refine HHA.out.mono ?_
   rintro e w3 ⟨rfl, hm⟩
   have HM := Lib.hid hm
   clear hm
   go_wp2
   go_ret
   exact ⟨rfl, HFIN.out _ _ (HM3.out.more HM.out)⟩
  ·rw [hpp] at d10
   have hQ : Q = ({ z with i := 0 }, 1) := by rw [hQ0, hpp]; rfl
   subst hQ
   have hx2 := HM3.out.2.put (y := { z with i := 0 }) 12 (.int .u32 0) (fun _ _ => rfl) rfl rfl rfl rfl HM3.out.2.rv (show (0 : Int) ≤ 0 ∧ (0 : Int) < 4294967296 by decide)
   have HEND := Lib.hid (HFIN.out _ _ (HM3.out.more (OpMore.base (Kp.st (S := fun k => k = o) (Kp.refl _ _) (.inl rfl) 12 (.int .u32 0)) (by simp [World.setCell]) (OpMore.refl hx2))))
   clear hQ0 hpp hx2
   go_wp2
   go_ret
   exact ⟨rfl, HEND.out⟩
 ·have hQ : Q = (z.core, 0) := by rw [HQ.out]; unfold OpS.visited; rw [if_neg s05, if_pos h1]
  subst hQ
  have t1 : (st != 1) = true := by rw [bne_iff_ne]; exact h1
  clear HQ h1 s05 d10 d12 g12
  go_wp2_with fail
  refine HCO.out.mono ?_
  rintro e w3 ⟨rfl, hm⟩
  have HM := Lib.hid hm
  clear hm
  go_wp2
  go_ret
  exact ⟨rfl, HFIN.out _ _ (HM3.out.more HM.out)⟩
end Go.Proofs.YtgdoeoackhfikaaGreatDoor

namespace Go.Proofs.YtgdoeoackhfikaaGreatDoor
open Go.RowKit Go.Proofs.YtgdoeoackhfikaaGreatDoorW.PrintWords
set_option maxRecDepth 100000
set_option maxHeartbeats 4000000
set_option linter.unusedSimpArgs false
set_option linter.unusedVariables false
attribute [local go_sem] hs_other hs_alloc hs_falloc run_store_func run_makeFunc
attribute [local go_sem ↓] Go.wp_at_zero Go.wp_at_succ
theorem op_step_at (w : World) (b : MB) (σ : MemS) (hb : MemAt w b σ) (hfn : σ.notes.length < 1000000000) (s : Nat) (dv : Value) (r : SrcS) (hs : SrcAt w s dv r) (F : Nat → Prop) (hA : Apart w b F) (ha : SApart b F s dv) (o : Nat) (x : OpS) (hx : OpAt w F o x) (t : TR) (hp : x.part = .at t) :
  Calls Tryz.prog 228 #[.pointer (some ⟨o, 0, none⟩), .pointer (some ⟨b.m, 0, none⟩), .pointer (some ⟨s, 0, none⟩)] w (NextPost F w b s dv o (x.next σ r)) := by
 have hin := op_took w b σ hb hfn s dv r hs F hA ha o x hx t hp
 obtain ⟨sv, pv, P, ho, hsh, hpa, hP⟩ := hx.obj
 have hpa' : PartAt w P pv (.at t) := hp ▸ hpa
 obtain ⟨a, rfl, _⟩ := hpa'
 have c14 : w.cell? ⟨o, 14, none⟩ = some (.iface 322 (.pointer (some ⟨a, 0, none⟩))) := (obj_cells ho).1 14
 have s0 := fun (v : Value) W => assert_pointer (P := Tryz.prog) (w := W) 322 20 v Tryz.underlying322
 generalize x.next σ r = Q at *
 have HIN := Lib.hid hin
 clear hin hsh hpa hP ho hs hb hA ha hx hp 
 go_enter Tryz.func228, Tryz.ntmps228
 go_wp2_with fail
 refine HIN.out.mono ?_
 rintro e w1 ⟨rfl, hpost⟩
 have HP := Lib.hid hpost
 clear hpost
 go_wp2
 go_ret
 exact ⟨rfl, HP.out⟩
theorem op_step_ag (w : World) (b : MB) (σ : MemS) (hb : MemAt w b σ) (hfn : σ.notes.length < 1000000000) (s : Nat) (dv : Value) (r : SrcS) (hs : SrcAt w s dv r) (F : Nat → Prop) (hA : Apart w b F) (ha : SApart b F s dv) (o : Nat) (x : OpS) (hx : OpAt w F o x) (t : TR) (node : Int) (hp : x.part = .ag t node) (hfew : t.shelf.length < 1000000) :
  Calls Tryz.prog 228 #[.pointer (some ⟨o, 0, none⟩), .pointer (some ⟨b.m, 0, none⟩), .pointer (some ⟨s, 0, none⟩)] w (NextPost F w b s dv o (x.next σ r)) := by
 have hin := op_gave w b σ hb hfn s dv r hs F hA ha o x hx t node hp hfew
 obtain ⟨sv, pv, P, ho, hsh, hpa, hP⟩ := hx.obj
 have hpa' : PartAt w P pv (.ag t node) := hp ▸ hpa
 obtain ⟨a, rfl, _⟩ := hpa'
 have c14 : w.cell? ⟨o, 14, none⟩ = some (.iface 358 (.pointer (some ⟨a, 0, none⟩))) := (obj_cells ho).1 14
 obtain ⟨j0, k0, z0, _⟩ := info_parts info_pTake
 have s0 := fun (v : Value) W => assert_otherP (P := Tryz.prog) (w := W) 358 322 20 v Tryz.underlying322 (by decide) k0 z0
 have s1 := fun (v : Value) W => assert_pointer (P := Tryz.prog) (w := W) 358 20 v Tryz.underlying358
 generalize x.next σ r = Q at *
 have HIN := Lib.hid hin
 clear hin hsh hpa hP ho hs hb hA ha hx hp k0 z0
 go_enter Tryz.func228, Tryz.ntmps228
 go_wp2_with fail
 refine HIN.out.mono ?_
 rintro e w1 ⟨rfl, hpost⟩
 have HP := Lib.hid hpost
 clear hpost
 go_wp2
 go_ret
 exact ⟨rfl, HP.out⟩
theorem op_step_vis (w : World) (b : MB) (σ : MemS) (hb : MemAt w b σ) (hfn : σ.notes.length < 1000000000) (s : Nat) (dv : Value) (r : SrcS) (hs : SrcAt w s dv r) (F : Nat → Prop) (hA : Apart w b F) (ha : SApart b F s dv) (o : Nat) (x : OpS) (hx : OpAt w F o x) (v : ElV) (hp : x.part = .vis v) (hc : v.c = x.c.l) (h0 : v.c.slots ≠ 0) :
  Calls Tryz.prog 228 #[.pointer (some ⟨o, 0, none⟩), .pointer (some ⟨b.m, 0, none⟩), .pointer (some ⟨s, 0, none⟩)] w (NextPost F w b s dv o (x.next σ r)) := by
 have hin := op_visited w b σ hb hfn s dv r hs F hA ha o x hx v hp hc h0
 obtain ⟨sv, pv, P, ho, hsh, hpa, hP⟩ := hx.obj
 have hpa' : PartAt w P pv (.vis v) := hp ▸ hpa
 obtain ⟨a, rfl, _⟩ := hpa'
 have c14 : w.cell? ⟨o, 14, none⟩ = some (.iface 359 (.pointer (some ⟨a, 0, none⟩))) := (obj_cells ho).1 14
 obtain ⟨j0, k0, z0, _⟩ := info_parts info_pTake
 have s0 := fun (v : Value) W => assert_otherP (P := Tryz.prog) (w := W) 359 322 20 v Tryz.underlying322 (by decide) k0 z0
 obtain ⟨j1, k1, z1, _⟩ := info_parts info_pGive
 have s1 := fun (v : Value) W => assert_otherP (P := Tryz.prog) (w := W) 359 358 20 v Tryz.underlying358 (by decide) k1 z1
 have s2 := fun (v : Value) W => assert_pointer (P := Tryz.prog) (w := W) 359 20 v Tryz.underlying359
 generalize x.next σ r = Q at *
 have HIN := Lib.hid hin
 clear hin hsh hpa hP ho hs hb hA ha hx hp k0 z0 k1 z1
 go_enter Tryz.func228, Tryz.ntmps228
 go_wp2_with fail
 refine HIN.out.mono ?_
 rintro e w1 ⟨rfl, hpost⟩
 have HP := Lib.hid hpost
 clear hpost
 go_wp2
 go_ret
 exact ⟨rfl, HP.out⟩
theorem op_step_acc (w : World) (b : MB) (σ : MemS) (hb : MemAt w b σ) (hfn : σ.notes.length < 1000000000) (s : Nat) (dv : Value) (r : SrcS) (hs : SrcAt w s dv r) (F : Nat → Prop) (hA : Apart w b F) (ha : SApart b F s dv) (o : Nat) (x : OpS) (hx : OpAt w F o x) (a : Int) (wr : Bool) (hp : x.part = .acc a wr) :
  Calls Tryz.prog 228 #[.pointer (some ⟨o, 0, none⟩), .pointer (some ⟨b.m, 0, none⟩), .pointer (some ⟨s, 0, none⟩)] w (NextPost F w b s dv o (x.next σ r)) := by
 have hin := (by cases wr; exact op_read w b σ hb hfn s dv r hs F hA ha o x hx a hp; exact op_write w b σ hb hfn s dv r hs F hA ha o x hx a hp : Calls Tryz.prog 232 #[.pointer (some ⟨o, 0, none⟩), .pointer (some ⟨b.m, 0, none⟩)] w (NextPost F w b s dv o (x.next σ r)))
 obtain ⟨sv, pv, P, ho, hsh, hpa, hP⟩ := hx.obj
 have hpa' : PartAt w P pv (.acc a wr) := hp ▸ hpa
 have hpv : pv = .iface 361 (.agg #[.int .i64 a, .bool wr]) := hpa'
 subst hpv
 have c14 : w.cell? ⟨o, 14, none⟩ = some (.iface 361 (.agg #[.int .i64 a, .bool wr])) := (obj_cells ho).1 14
 obtain ⟨j0, k0, z0, _⟩ := info_parts info_pTake
 have s0 := fun (v : Value) W => assert_otherP (P := Tryz.prog) (w := W) 361 322 20 v Tryz.underlying322 (by decide) k0 z0
 obtain ⟨j1, k1, z1, _⟩ := info_parts info_pGive
 have s1 := fun (v : Value) W => assert_otherP (P := Tryz.prog) (w := W) 361 358 20 v Tryz.underlying358 (by decide) k1 z1
 obtain ⟨j2, k2, z2, _⟩ := info_parts info_pVisit
 have s2 := fun (v : Value) W => assert_otherP (P := Tryz.prog) (w := W) 361 359 20 v Tryz.underlying359 (by decide) k2 z2
 have s3 := fun (v : Value) W => assert_struct (P := Tryz.prog) (w := W) 361 20 v Tryz.underlying361
 generalize x.next σ r = Q at *
 have HIN := Lib.hid hin
 clear hin hsh hpa hpa' hP ho hs hb hA ha hx hp k0 z0 k1 z1 k2 z2
 go_enter Tryz.func228, Tryz.ntmps228
 go_wp2_with fail
 refine HIN.out.mono ?_
 rintro e w1 ⟨rfl, hpost⟩
 have HP := Lib.hid hpost
 clear hpost
 go_wp2
 go_ret
 exact ⟨rfl, HP.out⟩
theorem op_step_tt (w : World) (b : MB) (σ : MemS) (hb : MemAt w b σ) (hfn : σ.notes.length < 1000000000) (s : Nat) (dv : Value) (r : SrcS) (hs : SrcAt w s dv r) (F : Nat → Prop) (hA : Apart w b F) (ha : SApart b F s dv) (o : Nat) (x : OpS) (hx : OpAt w F o x) (y : TL) (hp : x.part = .tt y) :
  Calls Tryz.prog 228 #[.pointer (some ⟨o, 0, none⟩), .pointer (some ⟨b.m, 0, none⟩), .pointer (some ⟨s, 0, none⟩)] w (NextPost F w b s dv o (x.next σ r)) := by
 have hin := op_tried_tt w b σ hb hfn s dv r hs F hA ha o x hx y hp
 obtain ⟨sv, pv, P, ho, hsh, hpa, hP⟩ := hx.obj
 have hpa' : PartAt w P pv (.tt y) := hp ▸ hpa
 obtain ⟨a, rfl, _⟩ := hpa'
 have c14 : w.cell? ⟨o, 14, none⟩ = some (.iface 324 (.pointer (some ⟨a, 0, none⟩))) := (obj_cells ho).1 14
 obtain ⟨j0, k0, z0, _⟩ := info_parts info_pTake
 have s0 := fun (v : Value) W => assert_otherP (P := Tryz.prog) (w := W) 324 322 20 v Tryz.underlying322 (by decide) k0 z0
 obtain ⟨j1, k1, z1, _⟩ := info_parts info_pGive
 have s1 := fun (v : Value) W => assert_otherP (P := Tryz.prog) (w := W) 324 358 20 v Tryz.underlying358 (by decide) k1 z1
 obtain ⟨j2, k2, z2, _⟩ := info_parts info_pVisit
 have s2 := fun (v : Value) W => assert_otherP (P := Tryz.prog) (w := W) 324 359 20 v Tryz.underlying359 (by decide) k2 z2
 obtain ⟨j3, k3, z3, _⟩ := info_parts info_access
 have s3 := fun (v : Value) W => assert_other (P := Tryz.prog) (w := W) 324 361 20 v Tryz.underlying361 (by decide) k3 z3
 generalize x.next σ r = Q at *
 have HIN := Lib.hid hin
 clear hin hsh hpa hP ho hs hb hA ha hx hp k0 z0 k1 z1 k2 z2 k3 z3
 go_enter Tryz.func228, Tryz.ntmps228
 go_wp2_with fail
 refine HIN.out.mono ?_
 rintro e w1 ⟨rfl, hpost⟩
 have HP := Lib.hid hpost
 clear hpost
 go_wp2
 go_ret
 exact ⟨rfl, HP.out⟩
theorem op_step_tg (w : World) (b : MB) (σ : MemS) (hb : MemAt w b σ) (hfn : σ.notes.length < 1000000000) (s : Nat) (dv : Value) (r : SrcS) (hs : SrcAt w s dv r) (F : Nat → Prop) (hA : Apart w b F) (ha : SApart b F s dv) (o : Nat) (x : OpS) (hx : OpAt w F o x) (y : TL) (hp : x.part = .tg y) :
  Calls Tryz.prog 228 #[.pointer (some ⟨o, 0, none⟩), .pointer (some ⟨b.m, 0, none⟩), .pointer (some ⟨s, 0, none⟩)] w (NextPost F w b s dv o (x.next σ r)) := by
 have hin := op_tried_tg w b σ hb hfn s dv r hs F hA ha o x hx y hp
 obtain ⟨sv, pv, P, ho, hsh, hpa, hP⟩ := hx.obj
 have hpa' : PartAt w P pv (.tg y) := hp ▸ hpa
 obtain ⟨a, rfl, _⟩ := hpa'
 have c14 : w.cell? ⟨o, 14, none⟩ = some (.iface 379 (.pointer (some ⟨a, 0, none⟩))) := (obj_cells ho).1 14
 obtain ⟨j0, k0, z0, _⟩ := info_parts info_pTake
 have s0 := fun (v : Value) W => assert_otherP (P := Tryz.prog) (w := W) 379 322 20 v Tryz.underlying322 (by decide) k0 z0
 obtain ⟨j1, k1, z1, _⟩ := info_parts info_pGive
 have s1 := fun (v : Value) W => assert_otherP (P := Tryz.prog) (w := W) 379 358 20 v Tryz.underlying358 (by decide) k1 z1
 obtain ⟨j2, k2, z2, _⟩ := info_parts info_pVisit
 have s2 := fun (v : Value) W => assert_otherP (P := Tryz.prog) (w := W) 379 359 20 v Tryz.underlying359 (by decide) k2 z2
 obtain ⟨j3, k3, z3, _⟩ := info_parts info_access
 have s3 := fun (v : Value) W => assert_other (P := Tryz.prog) (w := W) 379 361 20 v Tryz.underlying361 (by decide) k3 z3
 generalize x.next σ r = Q at *
 have HIN := Lib.hid hin
 clear hin hsh hpa hP ho hs hb hA ha hx hp k0 z0 k1 z1 k2 z2 k3 z3
 go_enter Tryz.func228, Tryz.ntmps228
 go_wp2_with fail
 refine HIN.out.mono ?_
 rintro e w1 ⟨rfl, hpost⟩
 have HP := Lib.hid hpost
 clear hpost
 go_wp2
 go_ret
 exact ⟨rfl, HP.out⟩
theorem opSteps_ok (y : OpS) (m : MemS) (r : SrcS) (k : Nat) (hk : k < 1000000) (hok : y.Ok k) (hst : y.st = 0) (hn : m.notes.length < 1000000000) : OpSteps y m r := by
 intro w b s dv F o hb hs hA ha hx
 have hstep : Calls Tryz.prog 228 #[.pointer (some ⟨o, 0, none⟩), .pointer (some ⟨b.m, 0, none⟩), .pointer (some ⟨s, 0, none⟩)] w (NextPost F w b s dv o (y.next m r)) := by
  have hp := hok.part
  cases e : y.part <;> rw [e] at hp
  ·exact op_step_at w b m hb hn s dv r hs F hA ha o y hx _ e
  ·exact op_step_ag w b m hb hn s dv r hs F hA ha o y hx _ _ e (by have : _ ≤ k := hp; omega)
  ·exact op_step_tt w b m hb hn s dv r hs F hA ha o y hx _ e
  ·exact op_step_tg w b m hb hn s dv r hs F hA ha o y hx _ e
  ·exact op_step_vis w b m hb hn s dv r hs F hA ha o y hx _ e hp.1 hp.2.1
  ·exact op_step_acc w b m hb hn s dv r hs F hA ha o y hx _ _ e
 have e : y.step m r = ({ (y.next m r).1 with st := (y.next m r).2.2.2 }, (y.next m r).2.1, (y.next m r).2.2.1) := by unfold OpS.step; rw [if_pos hst]
 rw [e]
 exact op_Step_of w b m _ hb s dv r _ hs F hA ha o y (y.next m r).1 hx hst (y.next m r).2.2.2 (next_c y m r).2 hstep
end Go.Proofs.YtgdoeoackhfikaaGreatDoor

namespace Go.Proofs.YtgdoeoackhfikaaGreatDoor
open Go.RowKit
set_option maxRecDepth 100000
set_option linter.unusedSimpArgs false
set_option linter.unusedVariables false

theorem do_err (σ : Run) (e : Ent) (h : (σ.do_ e).2 ≠ 0) : (σ.do_ e).1 = σ := by
 have ha : ∀ t x p v, (σ.asked t x p v).2 ≠ 0 → (σ.asked t x p v).1 = σ := fun t x p v h => by
  unfold Run.asked at h ⊢
  split
  ·rfl
  ·rename_i e; rw [e] at h; exact absurd rfl h
 have hp : ∀ t x, (σ.picked t x).2 ≠ 0 → (σ.picked t x).1 = σ := fun t x h => by
  unfold Run.picked at h ⊢
  split
  ·rfl
  ·rename_i o e
   rw [e] at h
   dsimp only at h
   split at h <;> exact absurd rfl h
 unfold Run.do_ at h ⊢
 by_cases h1 : e.ok = false
 ·rw [if_pos h1]
 rw [if_neg h1] at h ⊢
 by_cases h2 : numbersOf e.op < 0
 ·rw [if_pos h2]
 rw [if_neg h2] at h ⊢
 by_cases h3 : (e.args.length : Int) ≠ numbersOf e.op
 ·rw [if_pos h3]
 rw [if_neg h3] at h ⊢
 by_cases h4 : e.op = 8987
 ·rw [if_pos h4] at h; exact absurd rfl h
 rw [if_neg h4] at h ⊢
 by_cases h5 : e.op = 9858
 ·rw [if_pos h5] at h ⊢
  by_cases h6 : e.args.getD 0 0 < 64
  ·rw [if_pos h6] at h; exact absurd rfl h
  ·rw [if_neg h6]
 rw [if_neg h5] at h ⊢
 cases hx : σ.ths[(e.args.getD 0 0).toNat]? with
 | none => rfl
 | some x =>
  rw [hx] at h
  dsimp only at h ⊢
  by_cases h7 : e.op = 8226
  ·rw [if_pos h7] at h ⊢; exact hp _ _ h
  ·rw [if_neg h7] at h ⊢; exact ha _ _ _ _ h

def Within : Nat → OpS → MemS → SrcS → Prop
 | 0, _, _, _ => False
 | n + 1, y, m, r => (y.step m r).1.st ≠ 0 ∨ Within n (y.step m r).1 (y.step m r).2.1 (y.step m r).2.2
theorem Within.mono {n : Nat} : ∀ {k : Nat} {y : OpS} {m : MemS} {r : SrcS}, n ≤ k → Within n y m r → Within k y m r := by
 induction n with
 | zero => intro k y m r _ h; cases h
 | succ n ih =>
  intro k y m r hk h
  obtain ⟨k, rfl⟩ : ∃ j, k = j + 1 := ⟨k - 1, by omega⟩
  exact h.imp id (fun h => ih (by omega) h)
end Go.Proofs.YtgdoeoackhfikaaGreatDoor

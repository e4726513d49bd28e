/-
  Proved: RunnerAsks answers true and leaves its arguments as they were, for every input; where the package-level variables that the row lists hold what the program's text lays (the card ties that).
-/
import Derived.Test.YtgdoeoackhfikaaGreatDoorQA1
import Derived.Test.YtgdoeoackhfikaaGreatDoorQA2
import Derived.Test.YtgdoeoackhfikaaGreatDoorQA3
import Derived.Test.YtgdoeoackhfikaaGreatDoorQA4
import Derived.Test.YtgdoeoackhfikaaGreatDoorQA5
import Derived.Test.YtgdoeoackhfikaaGreatDoorQA6
import Derived.Test.YtgdoeoackhfikaaGreatDoorQA7
import Derived.Test.YtgdoeoackhfikaaGreatDoorQA8
import Derived.Test.YtgdoeoackhfikaaGreatDoorQA9
import Derived.Test.YtgdoeoackhfikaaGreatDoorQA10
import Derived.Test.YtgdoeoackhfikaaGreatDoorQA11
import Derived.Test.YtgdoeoackhfikaaGreatDoorQA12
import Derived.Test.YtgdoeoackhfikaaGreatDoorQA13
import Derived.Test.YtgdoeoackhfikaaGreatDoorQA14
import Derived.Test.YtgdoeoackhfikaaGreatDoorQA15
import Derived.Test.YtgdoeoackhfikaaGreatDoorQA16
import Derived.Test.YtgdoeoackhfikaaGreatDoorQA17
import Derived.Test.YtgdoeoackhfikaaGreatDoorQA18
import Derived.Test.YtgdoeoackhfikaaGreatDoorQA19
import Derived.Test.YtgdoeoackhfikaaGreatDoorQA20
namespace Go.Proofs.YtgdoeoackhfikaaGreatDoor
open Go.RowKit
set_option maxRecDepth 100000
set_option linter.unusedSimpArgs false
set_option linter.unusedVariables false

theorem do_c (σ : Run) (e : Ent) : (σ.do_ e).1.c = σ.c ∧ (σ.do_ e).1.ths.length = σ.ths.length := by
 have ha : ∀ t x p v, (σ.asked t x p v).1.c = σ.c ∧ (σ.asked t x p v).1.ths.length = σ.ths.length := fun t x p v => by
  unfold Run.asked; split
  ·exact ⟨rfl, rfl⟩
  ·exact ⟨rfl, List.length_set ..⟩
 have hp : ∀ t x, (σ.picked t x).1.c = σ.c ∧ (σ.picked t x).1.ths.length = σ.ths.length := fun t x => by
  unfold Run.picked; split
  ·exact ⟨rfl, rfl⟩
  ·dsimp only; split <;> exact ⟨rfl, List.length_set ..⟩
 unfold Run.do_
 repeat' split
 all_goals first | exact ⟨rfl, rfl⟩ | exact ha _ _ _ _ | exact hp _ _

theorem load_get (m : MemS) (a b : Int) : (m.load a).get b = m.get b ∧ ((m.load a).has b ↔ m.has b) := by
 unfold MemS.load MemS.note MemS.get MemS.has
 refine ⟨?_, by simp⟩
 simp only [List.getD_eq_getElem?_getD]
 by_cases h : a.toNat < m.words.length
 ·by_cases e : a.toNat = b.toNat
  ·rw [e] at h ⊢
   rw [List.getElem?_set_self h]
   simp [List.getElem?_eq_getElem h]
  ·rw [List.getElem?_set_ne e]
 ·rw [List.set_eq_of_length_le (by omega)]
theorem store_get (m : MemS) (a w b : Int) (h : a.toNat ≠ b.toNat) : (m.store a w).get b = m.get b ∧ ((m.store a w).has b ↔ m.has b) := by
 unfold MemS.store MemS.note MemS.get MemS.has
 refine ⟨?_, by simp⟩
 simp only [List.getD_eq_getElem?_getD]
 rw [List.getElem?_set_ne h]
theorem op_step_go (y : OpS) (m : MemS) (r : SrcS) (h : y.st = 0) : y.step m r = ({ (y.next m r).1 with st := (y.next m r).2.2.2 }, (y.next m r).2.1, (y.next m r).2.2.1) := by
 unfold OpS.step; rw [if_pos h]
theorem stage6 (y : OpS) (m : MemS) (r : SrcS) (x : TL) (hst : y.st = 0) (hpu : y.push = true) (hp : y.part = .tg x) (hx : x.st = 0) (hn : x.nx = .gw) (hh : m.has x.at_) (hw : m.get x.at_ = x.w) : Within 1 y m r := by
 refine .inl ?_
 have e : x.step m = ({ x with st := 1 }, m.swap x.at_ x.w (nextW x.w x.i)) := by
  obtain ⟨c, a, i, w, nx, st⟩ := x
  subst hn hx
  unfold TL.step
  rw [if_pos rfl]
  unfold TL.next TL.swp
  dsimp only at hh hw ⊢
  rw [if_pos hh, if_pos hw]
 rw [op_step_go y m r hst]
 unfold OpS.next
 rw [hp]
 dsimp only
 rw [e]
 dsimp only
 unfold OpS.tried
 rw [if_neg (by decide), if_neg (by decide)]
 dsimp only
 rw [if_pos hpu]
 show (1 : Int) ≠ 0
 decide
theorem stage5 (y : OpS) (m : MemS) (r : SrcS) (x : TL) (hst : y.st = 0) (hpu : y.push = true) (hp : y.part = .tg x) (hx : x.st = 0) (hn : x.nx = .gs) (ha : x.at_ = 0) (hh : m.has x.at_) (hw : m.get x.at_ = x.w) (hi : 0 ≤ x.c.nextAt x.i) : Within 2 y m r := by
 have hpos : 2 ≤ x.c.nextAt x.i := by
  unfold LCfg.nextAt at hi ⊢
  by_cases h : 1 ≤ x.i ∧ x.i ≤ x.c.nodes
  ·rw [if_pos h]; omega
  ·rw [if_neg h] at hi; omega
 by_cases hb : m.has (x.c.nextAt x.i)
 ·have e : x.step m = ({ x with nx := .gw, st := 0 }, m.store (x.c.nextAt x.i) (idxOf x.w)) := by
   unfold TL.step
   rw [if_pos hx]
   unfold TL.next
   rw [hn]
   dsimp only
   rw [if_pos hb]
  have hg := store_get m (x.c.nextAt x.i) (idxOf x.w) x.at_ (by rw [ha]; omega)
  refine .inr ?_
  have ey : y.step m r = ({ y with part := .tg { x with nx := .gw, st := 0 }, st := 0 }, m.store (x.c.nextAt x.i) (idxOf x.w), r) := by
   rw [op_step_go y m r hst]
   unfold OpS.next
   rw [hp]
   dsimp only
   rw [e]
   dsimp only
   unfold OpS.tried
   rw [if_neg (by decide), if_pos (by decide)]
  rw [ey]
  exact stage6 _ _ _ { x with nx := .gw, st := 0 } rfl hpu rfl rfl rfl (hg.2.2 hh) (hg.1.trans hw)
 ·refine .inl ?_
  have e : x.step m = ({ x with st := 5 }, m) := by
   obtain ⟨c, a, i, w, nx, st⟩ := x
   subst hn hx
   unfold TL.step
   rw [if_pos rfl]
   unfold TL.next
   dsimp only at hb ⊢
   rw [if_neg hb]
  rw [op_step_go y m r hst]
  unfold OpS.next
  rw [hp]
  dsimp only
  rw [e]
  dsimp only
  unfold OpS.tried
  rw [if_neg (by decide), if_pos (by decide)]
  show (5 : Int) ≠ 0
  decide
theorem stage4 (y : OpS) (m : MemS) (r : SrcS) (c : LCfg) (i : Int) (hst : y.st = 0) (hpu : y.push = true) (hp : y.part = .tg (newGive c 0 i)) : Within 3 y m r := by
 have hend : ∀ (x : TL) (m' : MemS) (s : Int), s ≠ 0 → s ≠ 3 → s ≠ 1 → (newGive c 0 i).step m = ({ x with st := s }, m') → Within 3 y m r := fun x m' s h0 h3 h1 e => by
  refine .inl ?_
  rw [op_step_go y m r hst]
  unfold OpS.next
  rw [hp]
  dsimp only
  rw [e]
  dsimp only
  unfold OpS.tried
  rw [if_neg h3, if_pos h1]
  exact h0
 by_cases hb : c.nextAt i < 0
 ·exact hend (newGive c 0 i) m 5 (by decide) (by decide) (by decide) (by
   unfold newGive TL.step
   rw [if_pos rfl]
   unfold TL.next
   dsimp only
   rw [if_pos hb])
 by_cases hh : m.has 0
 ·have e : (newGive c 0 i).step m = ({ newGive c 0 i with w := m.get 0, nx := .gs, st := 0 }, m.load 0) := by
   unfold newGive TL.step
   rw [if_pos rfl]
   unfold TL.next
   dsimp only
   rw [if_neg hb, if_pos hh]
  have hg := load_get m 0 0
  refine .inr ?_
  have ey : y.step m r = ({ y with part := .tg { newGive c 0 i with w := m.get 0, nx := .gs, st := 0 }, st := 0 }, m.load 0, r) := by
   rw [op_step_go y m r hst]
   unfold OpS.next
   rw [hp]
   dsimp only
   rw [e]
   dsimp only
   unfold OpS.tried
   rw [if_neg (by decide), if_pos (by decide)]
  rw [ey]
  exact stage5 _ _ _ { newGive c 0 i with w := m.get 0, nx := .gs, st := 0 } rfl hpu rfl rfl rfl rfl (hg.2.2 hh) hg.1 (by show 0 ≤ c.nextAt i; omega)
 ·exact hend (newGive c 0 i) m 5 (by decide) (by decide) (by decide) (by
   unfold newGive TL.step
   rw [if_pos rfl]
   unfold TL.next
   dsimp only
   rw [if_neg hb, if_neg hh])
theorem stage3 (y : OpS) (m : MemS) (r : SrcS) (a : Int) (hst : y.st = 0) (hpu : y.push = true) (hp : y.part = .acc a true) : Within 4 y m r := by
 by_cases h : m.has a
 ·refine .inr ?_
  have ey : y.step m r = ({ y.core with st := 0 }, m.store a y.v, r) := by
   rw [op_step_go y m r hst]
   unfold OpS.next
   rw [hp]
   dsimp only
   rw [if_pos h]
  rw [ey]
  refine stage4 _ _ _ y.c.l y.i rfl hpu ?_
  show (if y.push = true then Part.tg (newGive y.c.l 0 y.i) else Part.tt (newTake y.c.l 0)) = _
  rw [if_pos hpu]
 ·refine .inl ?_
  rw [op_step_go y m r hst]
  unfold OpS.next
  rw [hp]
  dsimp only
  rw [if_neg h]
  show (5 : Int) ≠ 0
  decide
theorem stage_at (y : OpS) (m : MemS) (r : SrcS) (t : TR) (n : Nat) (hst : y.st = 0) (hpu : y.push = true) (hp : y.part = .at t) (h : (t.takeStep m).1.st ≠ 0 ∨ Within n { y with shelf := (t.takeStep m).1.shelf, part := .at (t.takeStep m).1, st := 0 } (t.takeStep m).2 r) (hn : 4 ≤ n) : Within (n + 1) y m r := by
 by_cases h1 : (t.takeStep m).1.st = 1
 ·refine .inr (Within.mono hn ?_)
  have ey : y.step m r = ({ y with shelf := (t.takeStep m).1.shelf, i := (t.takeStep m).1.i, part := .acc (y.c.l.valueAt (t.takeStep m).1.i) true, st := 0 }, (t.takeStep m).2, r) := by
   rw [op_step_go y m r hst]
   unfold OpS.next
   rw [hp]
   dsimp only
   rw [if_neg (fun e => e h1)]
  rw [ey]
  exact stage3 _ _ _ _ rfl hpu rfl
 ·have ey : y.step m r = ({ y with shelf := (t.takeStep m).1.shelf, part := .at (t.takeStep m).1, st := (t.takeStep m).1.st }, (t.takeStep m).2, r) := by
   rw [op_step_go y m r hst]
   unfold OpS.next
   rw [hp]
   dsimp only
   rw [if_pos h1]
  by_cases h0 : (t.takeStep m).1.st = 0
  ·refine .inr ?_
   rw [ey, h0]
   exact h.resolve_left (fun e => e h0)
  ·refine .inl ?_
   rw [ey]
   exact h0
theorem take_on (t : TR) (m : MemS) (hs : t.shelf = []) (h0 : t.st = 0) (z : TL) (m' : MemS) (hz : (t.now.getD t.fresh).step m = (z, m')) (h3 : z.st ≠ 3) : t.takeStep m = ({ t with now := some z, st := z.st, i := z.told }, m') := by
 unfold TR.takeStep
 rw [if_neg (fun e => e.1 hs)]
 unfold TR.goOn
 rw [if_neg (fun e => e h0), hz]
 dsimp only
 rw [if_neg h3]
theorem stage2 (y : OpS) (m : MemS) (r : SrcS) (t : TR) (x : TL) (n : Int) (hst : y.st = 0) (hpu : y.push = true) (hp : y.part = .at t) (hs : t.shelf = []) (h0 : t.st = 0) (hnow : t.now = some x) (hx : x.st = 0) (hn : x.nx = .tw n) (hh : m.has x.at_) (hw : m.get x.at_ = x.w) : Within 5 y m r := by
 have e : x.step m = ({ x with st := 1 }, m.swap x.at_ x.w (nextW x.w (idxOf n))) := by
  obtain ⟨c, a, i, w, nx, st⟩ := x
  subst hn hx
  unfold TL.step
  rw [if_pos rfl]
  unfold TL.next TL.swp
  dsimp only at hh hw ⊢
  rw [if_pos hh, if_pos hw]
 have et := take_on t m hs h0 { x with st := 1 } _ (by rw [hnow]; exact e) (show (1 : Int) ≠ 3 by decide)
 exact stage_at y m r t 4 hst hpu hp (.inl (by rw [et]; show (1 : Int) ≠ 0; decide)) (Nat.le_refl _)
theorem stage1 (y : OpS) (m : MemS) (r : SrcS) (t : TR) (x : TL) (hst : y.st = 0) (hpu : y.push = true) (hp : y.part = .at t) (hs : t.shelf = []) (h0 : t.st = 0) (hnow : t.now = some x) (hx : x.st = 0) (hn : x.nx = .ts) (hh : m.has x.at_) (hw : m.get x.at_ = x.w) : Within 6 y m r := by
 by_cases hb : m.has (x.c.nextAt x.i)
 ·have e : x.step m = ({ x with nx := .tw (m.get (x.c.nextAt x.i)), st := 0 }, m.load (x.c.nextAt x.i)) := by
   obtain ⟨c, a, i, w, nx, st⟩ := x
   subst hn hx
   unfold TL.step
   rw [if_pos rfl]
   unfold TL.next
   dsimp only at hb ⊢
   rw [if_pos hb]
  have hg := load_get m (x.c.nextAt x.i) x.at_
  have et := take_on t m hs h0 { x with nx := .tw (m.get (x.c.nextAt x.i)), st := 0 } _ (by rw [hnow]; exact e) (show (0 : Int) ≠ 3 by decide)
  refine stage_at y m r t 5 hst hpu hp (.inr ?_) (by decide)
  rw [et]
  exact stage2 _ _ _ { t with now := some { x with nx := .tw (m.get (x.c.nextAt x.i)), st := 0 }, st := 0, i := _ } { x with nx := .tw (m.get (x.c.nextAt x.i)), st := 0 } _ rfl hpu rfl hs rfl rfl rfl rfl (hg.2.2 hh) (hg.1.trans hw)
 ·have e : x.step m = ({ x with st := 5 }, m) := by
   obtain ⟨c, a, i, w, nx, st⟩ := x
   subst hn hx
   unfold TL.step
   rw [if_pos rfl]
   unfold TL.next
   dsimp only at hb ⊢
   rw [if_neg hb]
  have et := take_on t m hs h0 { x with st := 5 } _ (by rw [hnow]; exact e) (show (5 : Int) ≠ 3 by decide)
  exact stage_at y m r t 5 hst hpu hp (.inl (by rw [et]; show (5 : Int) ≠ 0; decide)) (by decide)
theorem push_within (c : ECfg) (sh : List Int) (pol : Pol) (v : Int) (m : MemS) (r : SrcS) (hp : pol.right c.l.slots) : Within 7 (newPush c sh pol v) m r := by
 have hst : (newPush c sh pol v).st = 0 := by unfold newPush; exact if_pos hp
 have hfin : ∀ n : Nat, 4 ≤ n → ∀ t : TR, (newPush c sh pol v).part = .at t → (t.takeStep m).1.st ≠ 0 → Within (n + 1) (newPush c sh pol v) m r := fun n hn t ht h => stage_at _ m r t n hst rfl ht (.inl h) hn
 by_cases hs : sh = []
 ·subst hs
  have hend : ∀ (z : TL) (m' : MemS), (newTake c.l 1).step m = (z, m') → z.st ≠ 3 → z.st ≠ 0 → Within 7 (newPush c [] pol v) m r := fun z m' e h3 h0 => by
   have et := take_on (newTries c.budget [] (newTake c.l 1)) m rfl rfl z m' e h3
   exact hfin 6 (by decide) _ rfl (by rw [et]; exact h0)
  by_cases hh : m.has 1
  ·by_cases hi : idxOf (m.get 1) = 0
   ·exact hend { newTake c.l 1 with w := m.get 1, i := idxOf (m.get 1), st := 2 } (m.load 1) (by
     unfold newTake TL.step
     rw [if_pos rfl]
     unfold TL.next
     dsimp only
     rw [if_pos hh, if_pos hi]) (show (2 : Int) ≠ 3 by decide) (show (2 : Int) ≠ 0 by decide)
   ·by_cases hb : c.l.nextAt (idxOf (m.get 1)) < 0
    ·exact hend { newTake c.l 1 with w := m.get 1, i := idxOf (m.get 1), st := 5 } (m.load 1) (by
      unfold newTake TL.step
      rw [if_pos rfl]
      unfold TL.next
      dsimp only
      rw [if_pos hh, if_neg hi, if_pos hb]) (show (5 : Int) ≠ 3 by decide) (show (5 : Int) ≠ 0 by decide)
    ·have e : (newTake c.l 1).step m = ({ newTake c.l 1 with w := m.get 1, i := idxOf (m.get 1), nx := .ts, st := 0 }, m.load 1) := by
      unfold newTake TL.step
      rw [if_pos rfl]
      unfold TL.next
      dsimp only
      rw [if_pos hh, if_neg hi, if_neg hb]
     have et := take_on (newTries c.budget [] (newTake c.l 1)) m rfl rfl { newTake c.l 1 with w := m.get 1, i := idxOf (m.get 1), nx := .ts, st := 0 } _ e (show (0 : Int) ≠ 3 by decide)
     have hg := load_get m 1 1
     refine stage_at _ m r (newTries c.budget [] (newTake c.l 1)) 6 hst rfl rfl (.inr ?_) (by decide)
     rw [et]
     exact stage1 _ _ _ { newTries c.budget [] (newTake c.l 1) with now := some { newTake c.l 1 with w := m.get 1, i := idxOf (m.get 1), nx := .ts, st := 0 }, st := 0, i := _ } { newTake c.l 1 with w := m.get 1, i := idxOf (m.get 1), nx := .ts, st := 0 } rfl rfl rfl rfl rfl rfl rfl rfl (hg.2.2 hh) hg.1
  ·exact hend { newTake c.l 1 with w := 0, i := 0, st := 5 } m (by
    unfold newTake TL.step
    rw [if_pos rfl]
    unfold TL.next
    dsimp only
    rw [if_neg hh]) (show (5 : Int) ≠ 3 by decide) (show (5 : Int) ≠ 0 by decide)
 ·refine hfin 6 (by decide) (newTries c.budget sh (newTake c.l 1)) rfl ?_
  unfold TR.takeStep
  rw [if_pos ⟨hs, rfl⟩]
  show (1 : Int) ≠ 0
  decide
end Go.Proofs.YtgdoeoackhfikaaGreatDoor

namespace Go.Proofs.YtgdoeoackhfikaaGreatDoor
open Go.RowKit Go.Proofs.YtgdoeoackhfikaaGreatDoorW.PrintWords
set_option maxRecDepth 100000
set_option linter.unusedSimpArgs false
set_option linter.unusedVariables false
theorem Run.Inv.good {k : Nat} {σ : Run} (h : σ.Inv k) (es : List G.S33) (hk : k + es.length < 1000000) : ∀ a e b, es = a ++ e :: b → (σ.runs a).1.Few ∧ (σ.runs a).1.Steps (entOf e) := by
 intro a e b he
 have hl : es.length = a.length + (b.length + 1) := by rw [he]; simp
 have hi := h.runs a
 exact ⟨hi.few (by omega), hi.steps (by omega) _⟩
theorem runner_Run_ok (w : World) (hG : GG w) (B : RB) (σ : Run) (h : RunAt w B σ) (k : Nat) (hi : σ.Inv k) (s : ByteArray) (hk : k + s.size < 1000000) :
  Calls Tryz.prog 20 #[.pointer (some ⟨B.r, 0, none⟩), .string s] w fun e w' => ∃ v : Value, e = .returned v ∧ w'.ownsRow w.heap.size 27 1 v (parseF s).length (nums .i64 (σ.runs (parseF s)).2) ∧ ∃ B', B.Like B' ∧ RunAt w' B' (σ.runs (parseF s)).1 ∧ Kp B.all w w' ∧ (∀ k, B'.all k → B.all k ∨ w.heap.size ≤ k) ∧ (∀ k, v.ownBlock = some k → ¬ B'.all k) := by
 have hl := parseF_len s
 exact runner_Run w hG B σ h s (by omega) (hi.good _ (by omega)) (parseF_range s) (by omega)
end Go.Proofs.YtgdoeoackhfikaaGreatDoor

namespace Go.Proofs.YtgdoeoackhfikaaGreatDoor
open Go.RowKit Go.Proofs.YtgdoeoackhfikaaGreatDoorW.PrintWords
set_option maxRecDepth 100000
set_option maxHeartbeats 4000000
set_option linter.unusedSimpArgs false
set_option linter.unusedVariables false
attribute [local go_sem] hs_other hs_alloc hs_falloc
attribute [local go_sem ↓] Go.wp_at_zero Go.wp_at_succ
theorem wf_u64 {z : Int} (h : (Lit.int .u64 z).wf = true) : 0 ≤ z ∧ z < 18446744073709551616 := by
 have h2 : 0 ≤ z ∧ z ≤ 18446744073709551615 := by simpa [Lit.wf, IntKind.min, IntKind.max, IntKind.signed, IntKind.bits] using h
 omega
end Go.Proofs.YtgdoeoackhfikaaGreatDoor

namespace Go.Proofs.YtgdoeoackhfikaaGreatDoor
open Go.RowKit Go.Proofs.YtgdoeoackhfikaaGreatDoorW.PrintWords
set_option maxRecDepth 100000
set_option maxHeartbeats 4000000
set_option linter.unusedSimpArgs false
set_option linter.unusedVariables false
theorem busy_tells (W : World) (B : RB) (σ : Run) (h : RunAt W B σ) (t : Nat) (x : Th) (hx : σ.ths[t]? = some x) :
  Calls Tryz.prog 27 #[.pointer (some ⟨B.s, 0, none⟩), .int .i64 t] W fun e w' => e = .returned (.bool x.op.isSome) ∧ w' = W := by
 have hlt : t < σ.ths.length := (List.getElem?_eq_some_iff.1 hx).1
 obtain ⟨_, _, _, _, _, h5⟩ := h.ths t x hx
 cases hy : x.op with
 | none =>
  rw [hy] at h5
  have hm : W.cell? ⟨B.tg, t, none⟩ = some .nilIface := map_cell h.tgc h5
  exact sched_Busy_nil W B.s B.mb.m B.q B.tg _ _ t h.sch hlt hm
 | some y =>
  rw [hy] at h5
  obtain ⟨o, h6, _⟩ := h5
  have hm : W.cell? ⟨B.tg, t, none⟩ = some (.iface 65 (.pointer (some ⟨o, 0, none⟩))) := map_cell h.tgc h6
  exact sched_Busy_has W B.s B.mb.m B.q B.tg _ _ t _ _ h.sch hlt hm
theorem op_tells (W : World) (B : RB) (σ : Run) (h : RunAt W B σ) (t : Nat) (x : Th) (hx : σ.ths[t]? = some x) :
  ∃ o : Option Addr, (o = none ↔ x.op = none) ∧ Calls Tryz.prog 28 #[.pointer (some ⟨B.k, 0, none⟩), .int .i64 t] W fun e w' => e = .returned (.pointer o) ∧ w' = W := by
 have hlt : t < σ.ths.length := (List.getElem?_eq_some_iff.1 hx).1
 obtain ⟨_, _, _, _, _, h5⟩ := h.ths t x hx
 cases hy : x.op with
 | none =>
  rw [hy] at h5
  have hm : W.cell? ⟨B.og, t, none⟩ = some (.pointer none) := map_cell h.ogc h5
  exact ⟨none, by simp, stacks_Op W B.k _ _ _ _ _ _ t none h.book hlt rfl hm⟩
 | some y =>
  rw [hy] at h5
  obtain ⟨o, h6, _⟩ := h5
  have hm : W.cell? ⟨B.og, t, none⟩ = some (.pointer (some ⟨o, 0, none⟩)) := map_cell h.ogc h6
  exact ⟨some ⟨o, 0, none⟩, by simp, stacks_Op W B.k _ _ _ _ _ _ t _ h.book hlt rfl hm⟩
theorem ev_read {w : World} {base : Nat} {A : Option Addr} {c n : Nat} {l : List Ev} (hn : n = l.length) (h : w.ownsRow base 64 5 (.slice A n c) n (l.flatMap evV)) {j : Nat} {x : Ev} (hj : l[j]? = some x) :
  ∃ ad, A = some ad ∧ w.cell? (ad.add (j * 5)) = some (.int .i64 x.t) ∧ w.cell? ⟨(ad.add (j * 5)).block, (ad.add (j * 5)).off + 1, none⟩ = some (.bool x.ret) ∧ w.cell? ⟨(ad.add (j * 5)).block, (ad.add (j * 5)).off + 2, none⟩ = some (.bool x.push) ∧ w.cell? ⟨(ad.add (j * 5)).block, (ad.add (j * 5)).off + 3, none⟩ = some (.int .u64 x.v) ∧ w.cell? ⟨(ad.add (j * 5)).block, (ad.add (j * 5)).off + 4, none⟩ = some (.int .i64 x.st) ∧ n ≤ c := by
 subst hn
 obtain ⟨hC, hc⟩ := evs_C h
 have hlt : j < l.length := (List.getElem?_eq_some_iff.1 hj).1
 obtain ⟨ad, e, h0, h1, h2, h3, h4⟩ := G.at_T64 hC (j : Int) (by omega) (by omega)
 have hr : G.rd_T64 (l.map evS) (j : Int) = evS x := by
  unfold G.rd_T64
  rw [List.getD_eq_getElem?_getD, List.getElem?_map, Int.toNat_natCast, hj]
  rfl
 rw [hr, Int.toNat_natCast] at h0 h1 h2 h3 h4
 exact ⟨ad, e, h0, h1, h2, h3, h4, hc⟩
end Go.Proofs.YtgdoeoackhfikaaGreatDoor

namespace Go.Proofs.YtgdoeoackhfikaaGreatDoor
open Go.RowKit Go.Proofs.YtgdoeoackhfikaaGreatDoorW.PrintWords
set_option maxRecDepth 100000
set_option maxHeartbeats 40000000
set_option linter.unusedSimpArgs false
set_option linter.unusedVariables false
attribute [local go_sem] hs_other hs_alloc hs_falloc
attribute [local go_sem ↓] Go.wp_at_zero Go.wp_at_succ
theorem wrap_adds (N : Nat) (h : N ≤ 2000) : wrap64 ((N : Int) + 1) = ((N + 1 : Nat) : Int) ∧ wrap64 ((N : Int) + 2) = ((N + 2 : Nat) : Int) := by
 have e1 : ((N + 1 : Nat) : Int) = (N : Int) + 1 := by push_cast; rfl
 have e2 : ((N + 2 : Nat) : Int) = (N : Int) + 2 := by push_cast; rfl
 rw [e1, e2]
 unfold wrap64
 constructor <;> omega
theorem alone_step (τ : Run) (t : Nat) (x : Th) (y : OpS) (m : Nat) (hx : τ.ths[t]? = some x) (hy : x.op = some y) (hw : Within (m + 1) y τ.mem τ.src) (e : Ent) (he : e.ok = true ∧ e.op = 8226 ∧ e.args = [(t : Int)]) :
  (τ.do_ e).2 = 0 ∧ ((∃ x' y', (τ.do_ e).1.ths[t]? = some x' ∧ x'.op = some y' ∧ x'.push = x.push ∧ Within m y' (τ.do_ e).1.mem (τ.do_ e).1.src ∧ (τ.do_ e).1.evs = τ.evs) ∨ (∃ x' v st, (τ.do_ e).1.ths[t]? = some x' ∧ x'.op = none ∧ (τ.do_ e).1.evs = τ.evs ++ [⟨t, true, x.push, v, st⟩])) := by
 have hlt : t < τ.ths.length := (List.getElem?_eq_some_iff.1 hx).1
 have hd : τ.do_ e = τ.picked t x := by
  obtain ⟨h1, h2, h3⟩ := he
  simp [Run.do_, numbersOf, h1, h2, h3, hx]
 rw [hd]
 unfold Run.picked
 rw [hy]
 dsimp only
 by_cases h0 : (y.step τ.mem τ.src).1.st = 0
 ·rw [if_pos h0]
  refine ⟨rfl, .inl ⟨{ x with op := some (y.step τ.mem τ.src).1 }, _, ?_, rfl, rfl, hw.resolve_left (fun e => e h0), rfl⟩⟩
  exact List.getElem?_set_self hlt
 ·rw [if_neg h0]
  refine ⟨rfl, .inr ⟨{ x with shelf := (y.step τ.mem τ.src).1.shelf, pol := (y.step τ.mem τ.src).1.pol, op := none }, _, _, ?_, rfl, rfl⟩⟩
  exact List.getElem?_set_self hlt
theorem asks_walk (nodes slots budget which v : Int) (r0 : -9223372036854775808 ≤ nodes ∧ nodes ≤ 9223372036854775807) (r1 : -9223372036854775808 ≤ slots ∧ slots ≤ 9223372036854775807) (r2 : -9223372036854775808 ≤ budget ∧ budget ≤ 9223372036854775807) (r4 : -9223372036854775808 ≤ which ∧ which ≤ 9223372036854775807) (r5 : 0 ≤ v ∧ v < 18446744073709551616) (s : ByteArray) (w : World) (hG : GG w) :
  Calls Tryz.prog 5 #[.int .i64 nodes, .int .i64 slots, .int .i64 budget, .string s, .int .i64 which, .int .u64 v] w fun e w' => e = .returned (.bool true) ∧ Below w.heap.size w w' := by
 obtain ⟨c, hc, hw, htg, q1, q2, q3, hcf⟩ := config_ok nodes slots budget 7 r0 r1 r2 (by decide)
 clear q1 q2 q3
 obtain ⟨ρ, p0, p8, hpick⟩ := pick_ok which r4 4 (by decide)
 obtain ⟨t, rfl⟩ : ∃ t : Nat, ρ = (t : Int) := ⟨ρ.toNat, by omega⟩
 have ht4 : t < 4 := by omega
 obtain ⟨ws, hwl, hstk0⟩ := stack_made c hc hw (by rw [htg]; decide)
 have hstk : ∀ (n : Nat) (hn : n = 4) (W : World), Calls Tryz.prog 12 #[c.v, .int .i64 4] W fun e w' => ∃ B : RB, e = .returned (.tuple #[.pointer (some ⟨B.r, 0, none⟩), .pointer (some ⟨B.k, 0, none⟩), .int .i64 0]) ∧ RunAt w' B (newRun c 4 ws) ∧ Kp (fun _ => False) W w' ∧ (∀ k, B.all k → W.heap.size ≤ k) := fun n hn W => hstk0 4 (by decide) W
 have hn : 4 = 4 := rfl
 have HPK := Lib.hid hpick
 clear hstk0 hpick
 have HCF := Lib.hid hcf
 have hst := hstk 4 hn
 unfold ECfg.v at hst
 have HST := Lib.hid hst
 have HWL := Lib.hid hwl
 have HC := Lib.hid hc
 clear hcf hst hstk hwl  hc hw htg
 go_enter Tryz.func5, Tryz.ntmps5
 go_wp2_with fail
 refine (shown_walk w hG).mono ?_
 rintro e w1 ⟨rfl, hb1⟩
 have hk1 : Kp (fun _ => False) w w1 := Kp.nb hb1
 clear hb1
 go_wp2_with fail
 refine (G.hatstandlaw17_config.calls _ _ _ _ _ _ _ _ _ _ _ w1 HCF.out).mono ?_
 rintro e w2 ⟨rfl, hb2⟩
 have hk2 : Kp (fun _ => False) w w2 := hk1.also (Kp.nb hb2)
 clear hb2
 go_wp2_with fail
 refine any_world (p := fun W => Calls Tryz.prog _ _ W _) ?_
 intro w3 hW3
 have hk3 : Kp (fun _ => False) w w3 := by rw [hW3]; exact hk2.alloc _
 have hO3 : w3.heap[w2.heap.size]? = some (.cells #[.int .i64 c.l.nodes, .int .i64 c.l.slots, .int .i64 c.l.holders, .int .u32 c.l.tag, .int .i64 c.budget, .int .i64 c.base, .int .u64 c.wait] 35 (0, 0)) := by rw [hW3]; exact hp_new _ _ _ rfl
 clear hW3
 obtain ⟨w4, hw4⟩ : ∃ w4, w3 = w4 := ⟨_, rfl⟩
 subst hw4
 have hk4 := hk3
 have hO4 := hO3
 refine (HST.out w3).mono ?_
 rintro e w5 ⟨B1, rfl, hR1, hk45, hf1⟩
 have hk5 : Kp (fun _ => False) w w5 := hk4.also hk45
 have HR1 := Lib.hid hR1
 clear hR1
 rcases Nat.lt_or_ge 2000 s.size with hs | hs
 ·have hd : decide (2000 < (s.size : Int)) = true := decide_eq_true (by omega)
  go_wp2
  go_ret
  exact ⟨rfl, hk5.blw⟩
 have hd : decide (2000 < (s.size : Int)) = false := decide_eq_false (by omega)
 have hI0 := newRun_inv c HC.out 4 ws
 have hl4 : (newRun c 4 ws).ths.length = 4 := by simp [newRun]
 generalize newRun c 4 ws = σ0 at *
 have hq1 := runner_Sched w5 B1 σ0 HR1.out
 have hrun := runner_Run_ok w5 (GG_at hG hk5.blw) B1 σ0 HR1.out 0 hI0 s (by omega)
 have hI := hI0.runs (parseF s)
 have hpl := parseF_len s
 have hlr : ∀ (es : List G.S33) (τ : Run), τ.ths.length = 4 → (τ.runs es).1.ths.length = 4 := fun es => by
  induction es with
  | nil => exact fun τ h => h
  | cons e es ih => exact fun τ h => ih _ (by rw [(do_c τ (entOf e)).2]; exact h)
 have hl1 := hlr (parseF s) σ0 hl4
 generalize hes : parseF s = es at *
 clear hes hlr
 go_wp2_with fail
 refine (hq1).mono ?_
 rintro e w6 ⟨rfl, hww6⟩
 obtain rfl : w5 = w6 := by first | exact hww6.symm | exact hww6
 go_wp2_with fail
 refine hrun.mono ?_
 rintro e w6 ⟨v6, rfl, _, B, hL, hR, hK6, hall6, _⟩
 have hk6 : Kp (fun _ => False) w w6 := hk5.comp hK6 (fun k hk e => by have := hf1 k e; have := hk4.size; omega)
 have hall : ∀ k, B.all k → w3.heap.size ≤ k := fun k e => by
  rcases hall6 k e with h | h
  ·exact hf1 k h
  ·have := hk45.size; omega
 generalize (σ0.runs es).1 = σ at *
 have hfew := hI.few (by omega)
 have hevl : σ.evs.length ≤ 2000 := by have := hI.evs; omega
 have hIk : σ.Inv 2000 := hI.mono (by omega)
 clear hrun hq1 hI hI0 hfew
 obtain ⟨x, hx⟩ : ∃ x, σ.ths[t]? = some x := ⟨_, List.getElem?_eq_getElem (by omega)⟩
 have hxi := hIk.ths x (List.mem_of_getElem? hx)
 go_wp2_with fail
 refine (G.hatstandlaw17_pick.calls which 4 (t : Int) w6 HPK.out).mono ?_
 rintro e w7 ⟨rfl, hdr⟩
 obtain ⟨nd, hdr⟩ := hdr.out
 have hk67 : Kp (fun _ => False) w6 w7 := by rw [hdr]; exact (Kp.refl _ _).drewN nd
 clear hdr
 have hk7 : Kp (fun _ => False) w w7 := hk6.also hk67
 have hR7 := hR.kept hk67 (fun _ _ e => e)
 have hfew := hIk.few (by decide)
 have hg1 := runner_Sched w7 B σ hR7
 have hg2 := sched_Mem w7 B.s B.mb.m B.q B.tg _ _ hR7.sch
 have hg3 := mem_Count w7 B.mb _ hR7.mem
 have hg4 := events_as w7 B σ hR7 hfew (by omega)
 rw [hL.r] at hg1 hg4
 have HR7 := Lib.hid hR7
 clear hR hR7
 go_wp2_with fail
 refine (hg1).mono ?_
 rintro e w8 ⟨rfl, hww8⟩
 obtain rfl : w7 = w8 := by first | exact hww8.symm | exact hww8
 go_wp2_with fail
 refine (hg2).mono ?_
 rintro e w8 ⟨rfl, hww8⟩
 obtain rfl : w7 = w8 := by first | exact hww8.symm | exact hww8
 go_wp2_with fail
 refine (hg3).mono ?_
 rintro e w8 ⟨rfl, hww8⟩
 obtain rfl : w7 = w8 := by first | exact hww8.symm | exact hww8
 go_wp2_with fail
 refine hg4.mono ?_
 rintro e w8 ⟨A8, c8, rfl, hk8, _, _⟩
 have hR8 := HR7.out.kept hk8 (fun _ _ e => e)
 have hu1 := runner_Sched w8 B σ hR8
 have hu2 := busy_tells w8 B σ hR8 t x hx
 obtain ⟨bz, hbz⟩ : ∃ bz, bz = x.op.isSome := ⟨_, rfl⟩
 rw [← hbz] at hu2
 have HBZ := Lib.hid hbz
 clear hbz
 rw [hL.r] at hu1
 have HR8 := Lib.hid hR8
 have hk08 : Kp (fun _ => False) w w8 := hk7.also hk8
 clear hg1 hg2 hg3 hg4 hR8
 go_wp2_with fail
 refine (hu1).mono ?_
 rintro e w9 ⟨rfl, hww9⟩
 obtain rfl : w8 = w9 := by first | exact hww9.symm | exact hww9
 go_wp2_with fail
 refine (hu2).mono ?_
 rintro e w9 ⟨rfl, hww9⟩
 obtain rfl : w8 = w9 := by first | exact hww9.symm | exact hww9
 clear hu1 hu2
 have hdo := fun (W : World) (g : Nat) (hk : Kp (fun _ => False) w8 W) (hg : w8.heap.size ≤ g) (h0 : W.cell? ⟨g, 0, none⟩ = some (.int .u64 t)) (h1 : W.cell? ⟨g, 1, none⟩ = some (.int .u64 v)) => runner_Do W B σ (HR8.out.kept hk (fun _ _ e => e)) hfew 8593 (some ⟨g, 0, none⟩) 2 [(t : Int), v] (fun _ => ⟨_, rfl, ⟨fun j u hj => (by
   match j, hj with
   | 0, hj => exact (Option.some.inj hj) ▸ h0
   | 1, hj => exact (Option.some.inj hj) ▸ h1
   | j + 2, hj => simp [nums] at hj), fun z hz => by
    rcases List.mem_cons.1 hz with rfl | hz
    ·omega
    ·rcases List.mem_cons.1 hz with rfl | hz
     ·exact r5
     ·cases hz⟩, fun h => by have : g < w8.heap.size := HR8.out.all_lt h; omega⟩) true 0 (fun h => by cases h)
 have hde : σ.do_ ⟨8593, [(t : Int), v], true, 0⟩ = σ.asked t x true v := by
  simp [Run.do_, numbersOf, hx]
 rw [hde, hL.r] at hdo
 have hwt : IntKind.u64.wrap (t : Int) = (t : Int) := by simp [IntKind.wrap, IntKind.bits, IntKind.signed]; omega
 have HDO := Lib.hid hdo
 clear hdo hde
 have hO8 : (w8.alloc (.cells #[.int .u64 t, .int .u64 v] 33)).heap[w8.heap.size]? = some (.cells #[.int .u64 t, .int .u64 v] 33 (0, 0)) := hp_new _ _ _ rfl
 have hK8 : Kp (fun _ => False) w8 (w8.alloc (.cells #[.int .u64 t, .int .u64 v] 33)) := (Kp.refl _ _).alloc _
 have hcall := HDO.out _ w8.heap.size hK8 (Nat.le_refl _) ((obj_cells hO8).1 0) ((obj_cells hO8).1 1)
 have HCALL := Lib.hid hcall
 clear hO8 hK8 hcall
 go_wp2_with fail
 refine HCALL.out.mono ?_
 rintro e w9 ⟨rfl, B', y1, y2, y3, y4⟩
 have s89 : w8.heap.size + 1 ≤ w9.heap.size := by have := y3.size; simpa using this
 have hk09 : Kp (fun _ => False) w w9 := (hk08.alloc _).comp y3 (fun k hk e => by have := hall k e; have := hk3.size; omega)
 have hall9 : ∀ k, B'.all k → w3.heap.size ≤ k := fun k e => by
  rcases y4 k e with h | h
  ·exact hall k h
  ·have h2 := hk45.size
   have h4 := hK6.size
   have h5 := hk67.size
   have h6 := hk8.size
   have h7 : w8.heap.size + 1 ≤ k := by simpa using h
   omega
 obtain ⟨N, hN⟩ : ∃ N, N = σ.evs.length := ⟨_, rfl⟩
 rw [← hN]
 have hNle : N ≤ 2000 := by rw [hN]; exact hevl
 have HW := Lib.hid (wrap_adds N hNle)
 have HN := Lib.hid hN
 have HFEW := Lib.hid hfew
 have HEVL := Lib.hid hevl
 clear HDO y3 y4 hN hfew hevl HR8 HR7
 cases bz
 ·have hyn : x.op = none := by
   have := HBZ.out
   cases h : x.op with
   | none => rfl
   | some y => rw [h] at this; cases this
  obtain ⟨σ2, hσ2⟩ : ∃ σ2 : Run, σ2 = { σ with ths := σ.ths.set t { x with op := some (newPush σ.c x.shelf x.pol v), push := true }, evs := σ.evs ++ [⟨t, false, true, v, 0⟩] } := ⟨_, rfl⟩
  have hz : σ.asked t x true v = (σ2, 0) := by unfold Run.asked; rw [hyn, hσ2]; rfl
  rw [hz] at y2 ⊢
  have hI2 : σ2.Inv 2001 := by
   have := hIk.asked t x hx true v
   rw [hz] at this
   exact this
  have hl2 : σ2.evs.length = N + 1 := by rw [hσ2, HN.out]; simp
  have hx2 : σ2.ths[t]? = some { x with op := some (newPush σ.c x.shelf x.pol v), push := true } := by rw [hσ2]; exact List.getElem?_set_self (by omega)
  have hev2 : σ2.evs[N]? = some ⟨t, false, true, v, 0⟩ := by rw [hσ2, HN.out]; simp
  have hm2 : σ2.mem = σ.mem := by rw [hσ2]
  have hwi : Within 7 (newPush σ.c x.shelf x.pol v) σ2.mem σ2.src := push_within _ _ _ _ _ _ hxi.2.1
  have hg4 := events_as w9 B' σ2 y2 (hI2.few (by decide)) (by omega)
  rw [y1.r, hL.r, hl2] at hg4
  have HY2 := Lib.hid y2
  have HHX := Lib.hid hx2
  have HHM := Lib.hid hm2
  have HHI := Lib.hid hI2
  have HWI := Lib.hid hwi
  clear hσ2 hz y2 hI2 hm2 hxi hx hyn HBZ hx2 hwi
  go_wp2_with fail
  refine hg4.mono ?_
  rintro e w10 ⟨A10, c10, rfl, hk10, hrow, _⟩
  obtain ⟨ad, rfl, e0, e1, e2, e3, e4, hcap⟩ := ev_read hl2.symm hrow hev2
  have hR10 := HY2.out.kept hk10 (fun _ _ e => e)
  have u1 := runner_Sched w10 B' σ2 hR10
  have u2 := sched_Mem w10 B'.s B'.mb.m B'.q B'.tg _ _ hR10.sch
  have u3 := mem_Count w10 B'.mb _ hR10.mem
  have u4 := busy_tells w10 B' σ2 hR10 t _ HHX.out
  obtain ⟨oo, hoo, u5⟩ := op_tells w10 B' σ2 hR10 t _ HHX.out
  obtain ⟨ao, rfl⟩ : ∃ ao, oo = some ao := by
   cases oo with
   | none => exact absurd (hoo.1 rfl) (by simp)
   | some ao => exact ⟨ao, rfl⟩
  rw [y1.r, hL.r] at u1
  rw [y1.k, hL.k] at u5
  rw [HHM.out] at u3
  have HR10 := Lib.hid hR10
  have hk010 : Kp (fun _ => False) w w10 := hk09.also hk10
  clear hrow hR10 hg4 hoo HHM hev2
  go_wp2_with fail
  refine (u1).mono ?_
  rintro e w11 ⟨rfl, hww11⟩
  obtain rfl : w10 = w11 := by first | exact hww11.symm | exact hww11
  go_wp2_with fail
  refine (u2).mono ?_
  rintro e w11 ⟨rfl, hww11⟩
  obtain rfl : w10 = w11 := by first | exact hww11.symm | exact hww11
  go_wp2_with fail
  refine (u3).mono ?_
  rintro e w11 ⟨rfl, hww11⟩
  obtain rfl : w10 = w11 := by first | exact hww11.symm | exact hww11
  go_wp2_with fail
  refine (u1).mono ?_
  rintro e w11 ⟨rfl, hww11⟩
  obtain rfl : w10 = w11 := by first | exact hww11.symm | exact hww11
  go_wp2_with fail
  refine (u4).mono ?_
  rintro e w11 ⟨rfl, hww11⟩
  obtain rfl : w10 = w11 := by first | exact hww11.symm | exact hww11
  go_wp2_with fail
  refine (u5).mono ?_
  rintro e w11 ⟨rfl, hww11⟩
  obtain rfl : w10 = w11 := by first | exact hww11.symm | exact hww11
  clear u1 u2 u3 u4 u5 e0 e1 e2 e3 e4
  go_wp2_with fail
  refine wp_world ?_
  intro W0 hW0
  obtain rfl : w10 = W0 := hW0.symm
  go_loopw [24] (fun i wr => ∃ (j : Nat) (Bj : RB) (τ : Run), j ≤ 7 ∧ i = .int .i64 j ∧ B'.Like Bj ∧ RunAt wr Bj τ ∧ Kp B'.all w10 wr ∧ (∀ k, Bj.all k → B'.all k ∨ w10.heap.size ≤ k) ∧ τ.Inv (2001 + j) ∧ ((∃ x' y', τ.ths[t]? = some x' ∧ x'.op = some y' ∧ x'.push = true ∧ Within (7 - j) y' τ.mem τ.src ∧ τ.evs = σ2.evs) ∨ (∃ x' v' st, τ.ths[t]? = some x' ∧ x'.op = none ∧ τ.evs = σ2.evs ++ [⟨t, true, true, v', st⟩]))) (fun i _ => 8 - (intOf i).toNat)
  case atStart =>
   exact ⟨0, B', σ2, by decide, rfl, RB.Like.refl B', HR10.out, Kp.refl _ _, fun k e => .inl e, HHI.out, .inl ⟨_, _, HHX.out, rfl, rfl, HWI.out, rfl⟩⟩
  case round =>
   obtain ⟨j, Bj, τ, hj, rfl, hLj, hRj, hKj, hAj, hIj, hcase⟩ := hrel
   have hdj : decide ((j : Int) < 2000) = true := decide_eq_true (by omega)
   have hfj := hIj.few (by omega)
   have HWJ := Lib.hid (wrap_succ j (by omega))
   rcases hcase with ⟨x', y', hx', hy', hp', hw', hev'⟩ | ⟨x', v', st, hx', hy', hev'⟩
   ·have hq1 := runner_Sched wr Bj τ hRj
    have hq2 := busy_tells wr Bj τ hRj t x' hx'
    rw [hLj.r, y1.r, hL.r] at hq1
    rw [show x'.op.isSome = true from by rw [hy']; rfl] at hq2
    have hjlt : j < 7 := by
     rcases Nat.lt_or_ge j 7 with h | h
     ·exact h
     ·rw [show 7 - j = 0 from by omega] at hw'
      cases hw'
    have hwm : Within ((6 - j) + 1) y' τ.mem τ.src := by rw [show (6 - j) + 1 = 7 - j from by omega]; exact hw'
    obtain ⟨hz2, hstp⟩ := alone_step τ t x' y' (6 - j) hx' hy' hwm ⟨8226, [(t : Int)], true, 0⟩ ⟨rfl, rfl, rfl⟩
    have hdo := fun (W : World) (g : Nat) (hk : Kp (fun _ => False) wr W) (hg : wr.heap.size ≤ g) (h0 : W.cell? ⟨g, 0, none⟩ = some (.int .u64 t)) => runner_Do W Bj τ (hRj.kept hk (fun _ _ e => e)) hfj 8226 (some ⟨g, 0, none⟩) 1 [(t : Int)] (fun _ => ⟨_, rfl, ⟨fun j u hj => (by
     match j, hj with
     | 0, hj => exact (Option.some.inj hj) ▸ h0
     | j + 1, hj => simp [nums] at hj), fun z hz => by
      rcases List.mem_cons.1 hz with rfl | hz
      ·omega
      ·cases hz⟩, fun h => by have : g < wr.heap.size := hRj.all_lt h; omega⟩) true 0 (hIj.steps (by omega) _)
    have hI' := hIj.do_ ⟨8226, [(t : Int)], true, 0⟩
    generalize τ.do_ ⟨8226, [(t : Int)], true, 0⟩ = z at *
    rw [hLj.r, y1.r, hL.r] at hdo
    have HZ2 := Lib.hid hz2
    clear hz2
    have hOr : (wr.alloc (.cells #[.int .u64 t] 33)).heap[wr.heap.size]? = some (.cells #[.int .u64 t] 33 (0, 0)) := hp_new _ _ _ rfl
    have hKr : Kp (fun _ => False) wr (wr.alloc (.cells #[.int .u64 t] 33)) := (Kp.refl _ _).alloc _
    have hcall := hdo _ wr.heap.size hKr (Nat.le_refl _) ((obj_cells hOr).1 0)
    have HCALL2 := Lib.hid hcall
    clear hOr hKr hcall
    have HDO := Lib.hid hdo
    have HST := Lib.hid hstp
    have HI' := Lib.hid hI'
    have HEV' := Lib.hid hev'
    have HP' := Lib.hid hp'
    clear hdo hstp hI' hev' hp' hw' hwm hx' hy' hRj hIj
    go_wp2_with fail
    refine (hq1).mono ?_
    rintro e w11 ⟨rfl, hww11⟩
    obtain rfl : wr = w11 := by first | exact hww11.symm | exact hww11
    go_wp2_with fail
    refine (hq2).mono ?_
    rintro e w11 ⟨rfl, hww11⟩
    obtain rfl : wr = w11 := by first | exact hww11.symm | exact hww11
    go_wp2_with fail
    refine HCALL2.out.mono ?_
    rintro e w12 ⟨he12, Bk, x1, x2, x3, x4⟩
    rw [HZ2.out] at he12
    subst he12
    have s12 : wr.heap.size + 1 ≤ w12.heap.size := by have := x3.size; simpa using this
    have sj := hKj.size
    have hK12 : Kp B'.all w10 w12 := (hKj.comp ((Kp.mono (S := fun _ => False) ((Kp.refl _ _).alloc _) (fun _ e => e.elim))) (fun _ _ e => e)).comp x3 (fun k hk e => by
     rcases hAj k e with h | h
     ·exact h
     ·omega)
    have hA12 : ∀ k, Bk.all k → B'.all k ∨ w10.heap.size ≤ k := fun k e => by
     rcases x4 k e with h | h
     ·exact hAj k h
     ·exact .inr (by
       have h7 : wr.heap.size + 1 ≤ k := by simpa using h
       omega)
    have HX2 := Lib.hid x2
    clear x2 x3 x4 hq1 hq2
    go_wp2_with fail
    refine ⟨⟨j + 1, Bk, z.1, by omega, (by first | rfl | rw [HWJ.out] | simp), ⟨x1.r.trans hLj.r, x1.s.trans hLj.s, x1.q.trans hLj.q, x1.k.trans hLj.k, x1.m.trans hLj.m⟩, HX2.out, hK12, hA12, ?_, ?_⟩, by first | (rw [HWJ.out]; simp only [intOf]; omega) | (simp only [intOf]; omega) | (simp [intOf]; omega)⟩
    ·rw [show 2001 + (j + 1) = 2001 + j + 1 from by omega]; exact HI'.out
    ·rcases HST.out with ⟨x3, y3, g1, g2, g3, g4, g5⟩ | ⟨x3, v3, s3, g1, g2, g3⟩
     ·exact .inl ⟨x3, y3, g1, g2, g3.trans HP'.out, by rw [show 7 - (j + 1) = 6 - j from by omega]; exact g4, g5.trans HEV'.out⟩
     ·exact .inr ⟨x3, v3, s3, g1, g2, by rw [g3, HEV'.out, HP'.out]⟩
   ·have hq1 := runner_Sched wr Bj τ hRj
    have hq2 := busy_tells wr Bj τ hRj t x' hx'
    rw [hLj.r, y1.r, hL.r] at hq1
    rw [show x'.op.isSome = false from by rw [hy']; rfl] at hq2
    have hlf : τ.evs.length = N + 2 := by rw [hev', List.length_append, hl2]; rfl
    have hevf : τ.evs[N + 1]? = some ⟨t, true, true, v', st⟩ := by rw [hev', List.getElem?_append_right (by omega), hl2]; simp
    have hg4 := events_as wr Bj τ hRj hfj (by omega)
    rw [hLj.r, y1.r, hL.r, hlf] at hg4
    have hfin : Kp (fun _ => False) w wr := hk010.comp hKj (fun k hk e => by have := hall9 k e; have := hk3.size; omega)
    have HRj := Lib.hid hRj
    have HXX := Lib.hid hx'
    have HYY := Lib.hid hy'
    clear hRj hx' hev' hIj hfj hy'
    go_wp2_with fail
    refine (hq1).mono ?_
    rintro e w11 ⟨rfl, hww11⟩
    obtain rfl : wr = w11 := by first | exact hww11.symm | exact hww11
    go_wp2_with fail
    refine (hq2).mono ?_
    rintro e w11 ⟨rfl, hww11⟩
    obtain rfl : wr = w11 := by first | exact hww11.symm | exact hww11
    go_wp2_with fail
    refine hg4.mono ?_
    rintro e w13 ⟨A13, c13, rfl, hk13, hrow, _⟩
    obtain ⟨ad2, rfl, f0, f1, f2, f3, f4, hcap2⟩ := ev_read hlf.symm hrow hevf
    obtain ⟨oo, hoo, u5⟩ := op_tells w13 Bj τ (HRj.out.kept hk13 (fun _ _ e => e)) t x' HXX.out
    obtain rfl : oo = none := hoo.2 HYY.out
    rw [hLj.k, y1.k, hL.k] at u5
    have hfin2 := hfin.also hk13
    clear hrow hg4 hq1 hq2 hoo hevf
    go_wp2_with fail
    refine (u5).mono ?_
    rintro e w14 ⟨rfl, hww14⟩
    obtain rfl : w13 = w14 := by first | exact hww14.symm | exact hww14
    go_wp2
    go_ret
    exact ⟨rfl, hfin2.blw⟩
 ·obtain ⟨y0, hy0⟩ : ∃ y0, x.op = some y0 := by
   have := HBZ.out
   cases h : x.op with
   | none => rw [h] at this; cases this
   | some y => exact ⟨y, rfl⟩
  have hz : σ.asked t x true v = (σ, 5) := by unfold Run.asked; rw [hy0]
  rw [hz] at y2 ⊢
  have hg4 := events_as w9 B' σ y2 HFEW.out (by have := HEVL.out; omega)
  rw [y1.r, hL.r, ← HN.out] at hg4
  clear hz y2 hy0
  go_wp2_with fail
  refine hg4.mono ?_
  rintro e w10 ⟨A10, c10, rfl, hk10, _, _⟩
  have hk010 : Kp (fun _ => False) w w10 := hk09.also hk10
  clear hg4
  go_wp2
  go_ret
  exact ⟨rfl, hk010.blw⟩
end Go.Proofs.YtgdoeoackhfikaaGreatDoor

namespace Go.Proofs.YtgdoeoackhfikaaGreatDoor
set_option linter.unusedVariables false
set_option linter.unusedSimpArgs false
open Go.ChangeShapes Go.WideShapes Go.ChangeAt Go.RowKit Go.Proofs.YtgdoeoackhfikaaGreatDoorW.PrintWords
open Go.ChangeMaps (open_string shut_string)
set_option maxRecDepth 100000
theorem runnerAsks_reads (os : Os) {H : Type} (enc : TypeId × Value → H) : ∃ places, DataW.whole enc Tryz.prog ((World.laidAll Tryz.prog os laid0).forCall (fun _ _ => 0) ⟨#[], #[.int .i64 0, .int .i64 0, .int .i64 0, .string ByteArray.empty, .int .i64 0, .int .u64 0], []⟩).memory Tryz.f5.params.toList Rows.runnerAsksSpec.vars false #[(.int .i64 0 : Value), (.int .i64 0 : Value), (.int .i64 0 : Value), (.string ByteArray.empty : Value), (.int .i64 0 : Value), (.int .u64 0 : Value)].toList 8 = some ([.lit (.int .i64 0), .lit (.int .i64 0), .lit (.int .i64 0), .lit (.string []), .lit (.int .i64 0), .lit (.int .u64 0)], [], places) :=
 ⟨[], by kernel_rfl⟩
theorem runnerAsks_lifted (os : Os) (started : os.Started) (H : Type) (enc : TypeId × Value → H) (F : Stop.Interp) :
  ReturnsInHanded {} Tryz.checked os 5 .any ((OpenSpec.ofChange Rows.runnerAsksSpec).preRow enc Tryz.prog Tryz.f5 Rows.runnerAsksRow.domain false Rows.runnerAsksRow.laid) (((OpenSpec.ofChange Rows.runnerAsksSpec).at F).post enc Tryz.prog Tryz.f5 false true false false) := by
 obtain ⟨places, hx⟩ := runnerAsks_reads os enc
 refine lifted_law started #[.int .i64 0, .int .i64 0, .int .i64 0, .string ByteArray.empty, .int .i64 0, .int .u64 0] Tryz.func5 (by kernel_rfl) rfl rfl ?_ ?_ (by kernel_rfl) (OpenSpec.preRow_of_cond 8 hx (by kernel_rfl) (fun k hk => by cases hk) (by kernel_rfl) (wit_met os _)) ?_
 ·intro ds hl
  rw [Tryz.params5] at hl
  match ds, hl with
  | [d0, d1, d2, d3, d4, d5], _ => rfl
 ·intro t ht
  rw [Tryz.params5] at ht
  have hm : t ∈ [3, 3, 3, 9, 3, 33] := ht
  have hall : ([3, 3, 3, 9, 3, 33].all fun u => Tryz.prog.readableRec u && decide (u < Tryz.prog.types.size)) = true := by kernel_rfl
  simpa using List.all_eq_true.1 hall t hm
 ·intro W base args ds p hval hA hG hsz
  rw [Tryz.params5] at hA hval hsz
  obtain ⟨v0, vs0, d0, ds0, p0, q0, hargs, rfl, rfl, h0, r0⟩ := trodAll_cons hA
  obtain ⟨v1, vs1, d1, ds1, p1, q1, rfl, rfl, rfl, h1, r1⟩ := trodAll_cons r0
  obtain ⟨v2, vs2, d2, ds2, p2, q2, rfl, rfl, rfl, h2, r2⟩ := trodAll_cons r1
  obtain ⟨v3, vs3, d3, ds3, p3, q3, rfl, rfl, rfl, h3, r3⟩ := trodAll_cons r2
  obtain ⟨v4, vs4, d4, ds4, p4, q4, rfl, rfl, rfl, h4, r4⟩ := trodAll_cons r3
  obtain ⟨v5, vs5, d5, ds5, p5, q5, rfl, rfl, rfl, h5, r5⟩ := trodAll_cons r4
  obtain ⟨rfl, rfl, rfl⟩ := trodAll_nil r5
  obtain rfl : args = #[v0, v1, v2, v3, v4, v5] := by cases args; simp_all
  obtain ⟨a0, rfl, rfl, rfl, w0⟩ := open_int Tryz.underlying3 (hval 0 3 v0 rfl rfl) h0
  obtain ⟨a1, rfl, rfl, rfl, w1⟩ := open_int Tryz.underlying3 (hval 1 3 v1 rfl rfl) h1
  obtain ⟨a2, rfl, rfl, rfl, w2⟩ := open_int Tryz.underlying3 (hval 2 3 v2 rfl rfl) h2
  obtain ⟨a3, rfl, rfl, rfl, _⟩ := open_string Tryz.underlying9 (hval 3 9 v3 rfl rfl) h3
  obtain ⟨a4, rfl, rfl, rfl, w4⟩ := open_int Tryz.underlying3 (hval 4 3 v4 rfl rfl) h4
  obtain ⟨a5, rfl, rfl, rfl, w5⟩ := open_int Tryz.underlying33 (hval 5 33 v5 rfl rfl) h5
  exact asks_walk a0 a1 a2 a4 a5 (by have := wf_i64 w0; omega) (by have := wf_i64 w1; omega) (by have := wf_i64 w2; omega) (by have := wf_i64 w4; omega) (wf_u64 w5) a3 W hG
theorem runnerAsks_said : Rows.RunnerAsksSaid :=
 OpenClaim.holds_of_cond 5 Tryz.f5 rfl rfl rfl rfl rfl rfl rfl ⟨rfl, rfl, rfl, rfl, rfl⟩ rfl rfl rfl rfl rfl (by kernel_rfl) Tryz.func5 (by kernel_rfl)
  (of_decide_eq_true (by kernel_rfl)) (by unfold Func.isWrapper; first | (rw [if_pos (by decide +kernel)]; kernel_rfl) | (rw [if_neg (by decide +kernel)]; exact ⟨rfl, rfl⟩))
  (fun os started H enc _ F => by rw [OpenClaim.pre_eq_preRow]; exact runnerAsks_lifted os started H enc F)
theorem runnerAsks_plain (f : FuncId) (fn : Func) (hf : Tryz.pinned.checked.prog.funcNamed "hatstand/hatstandlaw17.RunnerAsks" = some f) (hfn : Tryz.pinned.checked.prog.funcs[f]? = some fn) :
  true = Tryz.pinned.checked.prog.looks [] ∧ ∀ (j : Nat) t, fn.params[j]? = some t → Tryz.pinned.checked.prog.wantsStandIn t = false := by
 obtain rfl : f = 5 := Option.some.inj ((show Tryz.prog.funcNamed "hatstand/hatstandlaw17.RunnerAsks" = some 5 by kernel_rfl).symm.trans hf) |>.symm
 obtain rfl : fn = Tryz.f5 := (Option.some.inj (Tryz.func5.symm.trans hfn)).symm
 refine ⟨by kernel_rfl, fun j t ht => ?_⟩
 rw [Tryz.params5] at ht
 have hm : t ∈ [3, 3, 3, 9, 3, 33] := by simpa using Array.mem_of_getElem? ht
 have hall : ([3, 3, 3, 9, 3, 33].all fun u => !Tryz.prog.wantsStandIn u) = true := by kernel_rfl
 exact (show Tryz.prog.wantsStandIn t = false by simpa using List.all_eq_true.1 hall t hm)
theorem runnerAsks_card : Rows.RunnerAsksCardSaid :=
 Claim7.holds_tied_plain_at .later [] _ _ _ _ runnerAsks_said (fun _ h => by cases h) (by kernel_rfl) (fun _ h => by cases h) runnerAsks_row_tie rfl ⟨rfl, rfl⟩ (by kernel_rfl) rfl runnerAsks_plain (by kernel_rfl)
end Go.Proofs.YtgdoeoackhfikaaGreatDoor

namespace Go.Proofs.YtgdoeoackhfikaaGreatDoor
set_option linter.unusedVariables false
set_option linter.unusedSimpArgs false
theorem runnerAsks_holds : Rows.RunnerAsksCardSaid := runnerAsks_card
#print axioms runnerAsks_holds
end Go.Proofs.YtgdoeoackhfikaaGreatDoor

/-
  Parts of the proof of runnerSkips_holds: RunAsk, RunDo, RunDoB, RunAll.
-/
import Derived.Test.YtgdoeoackhfikaaGreatDoorQA12
import Derived.Test.YtgdoeoackhfikaaGreatDoorQA13
import Derived.Test.YtgdoeoackhfikaaGreatDoorQA5
namespace Go.Proofs.YtgdoeoackhfikaaGreatDoor
open Go.RowKit Go.Proofs.YtgdoeoackhfikaaGreatDoorW.PrintWords
set_option maxRecDepth 100000
set_option maxHeartbeats 4000000
set_option linter.unusedSimpArgs false
set_option linter.unusedVariables false
attribute [local go_sem] hs_other hs_alloc hs_falloc
attribute [local go_sem ↓] Go.wp_at_zero Go.wp_at_succ
theorem map_cell {α : Type} {w : World} {g : Nat} {f : α → Value} {l : List α} {ty : TypeId} (h : w.heap[g]? = some (.cells (l.map f).toArray ty (0, 0))) {t : Nat} {x : α} (hx : l[t]? = some x) : w.cell? ⟨g, t, none⟩ = some (f x) := by
 rw [Lib.cell_of_heap h]
 simp [hx]
theorem thRow_cell {sh : List Value} {ths : List Th} {t : Nat} {sv : Value} {x : Th} (h1 : sh[t]? = some sv) (h2 : ths[t]? = some x) (i : Nat) (hi : i < 3) : (thRow sh ths)[t * 3 + i]? = (thV sv x.pol)[i]? := by
 unfold thRow
 induction sh generalizing ths t with
 | nil => simp at h1
 | cons a sh ih =>
  cases ths with
  | nil => simp at h2
  | cons y ths =>
   cases t with
   | zero =>
    simp at h1 h2
    subst h1
    subst h2
    simp only [List.zipWith_cons_cons, List.flatten_cons, Nat.zero_mul, Nat.zero_add]
    rw [List.getElem?_append_left (by simp [thV]; omega)]
   | succ t =>
    simp at h1 h2
    have := ih h1 h2
    simp only [List.zipWith_cons_cons, List.flatten_cons]
    rw [List.getElem?_append_right (by simp [thV]; omega)]
    have e : (t + 1) * 3 + i - (thV a y.pol).length = t * 3 + i := by simp [thV]; omega
    rw [e]
    exact this
theorem RunAt.thread {w : World} {B : RB} {σ : Run} (h : RunAt w B σ) {t : Nat} {x : Th} (hx : σ.ths[t]? = some x) : ∃ sv, B.sh[t]? = some sv ∧ ShelfAt w (fun _ => True) sv x.shelf ∧ x.pol.right σ.c.l.slots ∧ x.shelf.length ≤ 1000000 ∧
  w.cell? ⟨B.hg, t * 3, none⟩ = some sv ∧ w.cell? ⟨B.hg, t * 3 + 1, none⟩ = some (.int .i64 x.pol.range) ∧ w.cell? ⟨B.hg, t * 3 + 2, none⟩ = some (.int .i64 x.pol.exp) := by
 obtain ⟨sv, h1, h2, h3, h4, h5⟩ := h.ths t x hx
 refine ⟨sv, h1, h2, h3, h4, ?_, ?_, ?_⟩
 ·rw [Lib.cell_of_heap h.hgc]
  have := thRow_cell h1 hx 0 (by omega)
  simpa [thV] using this
 ·rw [Lib.cell_of_heap h.hgc]
  have := thRow_cell h1 hx 1 (by omega)
  simpa [thV] using this
 ·rw [Lib.cell_of_heap h.hgc]
  have := thRow_cell h1 hx 2 (by omega)
  simpa [thV] using this
theorem asked_done {w W1 w2 w3 w4 W5 W6 : World} {B : RB} {σ : Run} (h : RunAt w B σ) {t : Nat} {x : Th} (hx : σ.ths[t]? = some x) (hy : x.op = none) {y : OpS} (hyc : y.c = σ.c) {o : Nat} {push : Bool} {v : Int} {bx : Obj}
  (ho : w.heap.size ≤ o) (hk1 : Kp (fun _ => False) w W1) (hop : OpAt W1 (fun k => w.heap.size ≤ k ∧ k < W1.heap.size) o y) (hw2 : w2 = W1.setCell ⟨B.og, t, none⟩ (.pointer (some ⟨o, 0, none⟩))) (hw3 : w3 = w2.setCell ⟨B.tg, t, none⟩ (.iface 65 (.pointer (some ⟨o, 0, none⟩)))) (hw4 : w4 = w3.setCell ⟨B.pg, t, none⟩ (.bool push))
  {g' cap' : Nat} (hgrow : (w4.alloc bx).grownBy W5 B.ev.ownBlock) (hown : W5.ownsRow 0 64 5 (.slice (some ⟨g', 0, none⟩) (σ.evs.length + 1) cap') (σ.evs.length + 1) (σ.evs.flatMap evV ++ evV ⟨t, false, push, v, 0⟩))
  (hat : B.ev.ownBlock = some g' ∨ g' = (w4.alloc bx).heap.size) (hlt : g' < W5.heap.size) (hw6 : W6 = W5.setCell ⟨B.r, 3, none⟩ (.slice (some ⟨g', 0, none⟩) (σ.evs.length + 1) cap')) :
  ∃ B', B.Like B' ∧ RunAt W6 B' { σ with ths := σ.ths.set t { x with op := some y, push := push }, evs := σ.evs ++ [⟨t, false, push, v, 0⟩] } ∧ Kp B.all w W6 ∧ (∀ k, B'.all k → B.all k ∨ w.heap.size ≤ k) := by
 have hS : ∀ k, (k = B.og ∨ k = B.tg ∨ k = B.pg ∨ k = B.r ∨ B.ev.ownBlock = some k) → ∃ u, Ty w k u ∧ (u = 65 ∨ u = 149 ∨ u = 4 ∨ u = 126 ∨ u = 64) := fun k hk => by
  rcases hk with rfl | rfl | rfl | rfl | hk
  ·exact ⟨_, Ty.of h.ogc, .inl rfl⟩
  ·exact ⟨_, Ty.of h.tgc, .inr (.inl rfl)⟩
  ·exact ⟨_, Ty.of h.pgc, .inr (.inr (.inl rfl))⟩
  ·exact ⟨_, Ty.of h.run, .inr (.inr (.inr (.inl rfl)))⟩
  ·exact ⟨_, Ty.row h.evr hk, .inr (.inr (.inr (.inr rfl)))⟩
 have hnS : ∀ k u, Ty w k u → u ≠ 65 → u ≠ 149 → u ≠ 4 → u ≠ 126 → u ≠ 64 → ¬ (k = B.og ∨ k = B.tg ∨ k = B.pg ∨ k = B.r ∨ B.ev.ownBlock = some k) := fun k u hT e1 e2 e3 e4 e5 hk => by
  obtain ⟨v, hv, hu⟩ := hS k hk
  rcases hu with rfl | rfl | rfl | rfl | rfl
  ·exact hT.ne hv e1 rfl
  ·exact hT.ne hv e2 rfl
  ·exact hT.ne hv e3 rfl
  ·exact hT.ne hv e4 rfl
  ·exact hT.ne hv e5 rfl
 have hfix : ∀ k, (k = B.og ∨ k = B.tg ∨ k = B.pg ∨ k = B.r ∨ B.ev.ownBlock = some k) → B.fix k := fun k hk => by
  rcases hk with hk | hk | hk | hk | hk
  ·exact .inr (.inr (.inr (.inr (.inr (.inr (.inr (.inr (.inr (.inl hk)))))))))
  ·exact .inr (.inr (.inr (.inr (.inr (.inr (.inl hk))))))
  ·exact .inr (.inr (.inr (.inr (.inr (.inr (.inr (.inl hk)))))))
  ·exact .inl hk
  ·exact .inr (.inr (.inr (.inr (.inr (.inr (.inr (.inr (.inr (.inr (.inl hk))))))))))
 have lold : ∀ k, (k = B.og ∨ k = B.tg ∨ k = B.pg ∨ k = B.r ∨ B.ev.ownBlock = some k) → k < w.heap.size := fun k hk => by
  obtain ⟨u, ⟨_, _, hT⟩, _⟩ := hS k hk
  exact lt_of_heap hT
 have s1 := hk1.size
 have s4 : w4.heap.size = W1.heap.size := by rw [hw4, hw3, hw2]; simp [World.setCell]
 have s5 : w4.heap.size + 1 ≤ W5.heap.size := by have := hgrow.size; simpa using this
 have K16 : Kp (fun k => k = B.og ∨ k = B.tg ∨ k = B.pg ∨ k = B.r ∨ B.ev.ownBlock = some k) W1 W6 := by
  have a4 : Kp (fun k => k = B.og ∨ k = B.tg ∨ k = B.pg ∨ k = B.r ∨ B.ev.ownBlock = some k) W1 w4 := by
   rw [hw4, hw3, hw2]
   exact Kp.st (S := fun k => k = B.og ∨ k = B.tg ∨ k = B.pg ∨ k = B.r ∨ B.ev.ownBlock = some k) (Kp.st (S := fun k => k = B.og ∨ k = B.tg ∨ k = B.pg ∨ k = B.r ∨ B.ev.ownBlock = some k) (Kp.st (S := fun k => k = B.og ∨ k = B.tg ∨ k = B.pg ∨ k = B.r ∨ B.ev.ownBlock = some k) (Kp.refl _ _) (.inl (.inl rfl)) _ _) (.inl (.inr (.inl rfl))) _ _) (.inl (.inr (.inr (.inl rfl)))) _ _
  have a5 := (a4.alloc bx).grown hgrow (fun k _ e => .inr (.inr (.inr (.inr e))))
  rw [hw6]
  exact Kp.st (S := fun k => k = B.og ∨ k = B.tg ∨ k = B.pg ∨ k = B.r ∨ B.ev.ownBlock = some k) a5 (.inl (.inr (.inr (.inr (.inl rfl))))) _ _
 have K06 : Kp (fun k => k = B.og ∨ k = B.tg ∨ k = B.pg ∨ k = B.r ∨ B.ev.ownBlock = some k) w W6 := (hk1.mono (fun _ e => e.elim)).comp K16 (fun _ _ e => e)
 have nog : B.tg ≠ B.og := ne_of_type h.tgc h.ogc (by decide)
 have npo : B.pg ≠ B.og := ne_of_type h.pgc h.ogc (by decide)
 have npt : B.pg ≠ B.tg := ne_of_type h.pgc h.tgc (by decide)
 have nro : B.r ≠ B.og := ne_of_type h.run h.ogc (by decide)
 have nrt : B.r ≠ B.tg := ne_of_type h.run h.tgc (by decide)
 have nrp : B.r ≠ B.pg := ne_of_type h.run h.pgc (by decide)
 have neo : ∀ k, B.ev.ownBlock = some k → k ≠ B.og ∧ k ≠ B.tg ∧ k ≠ B.pg ∧ k ≠ B.r := fun k hk => ⟨(Ty.row h.evr hk).ne (Ty.of h.ogc) (by decide), (Ty.row h.evr hk).ne (Ty.of h.tgc) (by decide), (Ty.row h.evr hk).ne (Ty.of h.pgc) (by decide), (Ty.row h.evr hk).ne (Ty.of h.run) (by decide)⟩
 have log := lold B.og (.inl rfl)
 have ltg := lold B.tg (.inr (.inl rfl))
 have lpg := lold B.pg (.inr (.inr (.inl rfl)))
 have lr := lold B.r (.inr (.inr (.inr (.inl rfl))))
 have up : ∀ (k : Nat) (ob : Obj), k < w.heap.size → B.ev.ownBlock ≠ some k → k ≠ B.r → w4.heap[k]? = some ob → W6.heap[k]? = some ob := fun k ob hl he hr hh => by
  rw [hw6]
  refine (hp_other _ _ _ _ hr).trans ((hgrow.block k (by simp; omega) (fun e => he e.symm)).trans ((hp_alloc _ _ _ (by omega)).trans hh))
 have g'r : g' ≠ B.r := by
  rcases hat with e | e
  ·exact (neo g' e).2.2.2
  ·simp at e; omega
 have ht : t < σ.ths.length := (List.getElem?_eq_some_iff.1 hx).1
 have hlen : (σ.ths.set t { x with op := some y, push := push }).length = σ.ths.length := List.length_set
 have g'new : ∀ k, k < w.heap.size → g' = k → B.ev.ownBlock = some k := fun k hk e => by
  rcases hat with e' | e'
  ·rw [e', e]
  ·simp at e'; omega
 obtain ⟨sv, hsv, hsh, hpr, hfew, hosx⟩ := h.ths t x hx
 rw [hy] at hosx
 have hos : B.os[t]? = some none := hosx
 have hot : t < B.os.length := (List.getElem?_eq_some_iff.1 hos).1
 refine ⟨{ B with ev := .slice (some ⟨g', 0, none⟩) (σ.evs.length + 1) cap', os := B.os.set t (some o), fp := fun u k => if u = t then w.heap.size ≤ k ∧ k < W1.heap.size else B.fp u k }, ⟨rfl, rfl, rfl, rfl, rfl⟩, ?_, ?_, ?_⟩
 ·refine ⟨by show 1 ≤ (σ.ths.set t _).length ∧ (σ.ths.set t _).length ≤ 8; rw [hlen]; exact h.n8, by show B.sh.length = (σ.ths.set t _).length; rw [hlen]; exact h.ls, by show (B.os.set t _).length = (σ.ths.set t _).length; rw [hlen, List.length_set]; exact h.lo, ?_, ?_, h.mem.kept K06 (fun k hk => ?_), h.src.kept K06 (fun k hk => ?_), ?_, ?_, ?_, ?_, ?_, ?_, h.right, h.rwt, h.pk, fun u z hz => ?_, fun u k hk => ?_, fun u u' k hk hk' => ?_⟩
  ·show RunnerC W6 B.r B.s _ (.slice _ (σ.ths.set t _).length (σ.ths.set t _).length) _
   rw [hlen]
   show W6.heap[B.r]? = _
   rw [hw6]
   have e5 : W5.heap[B.r]? = some (.cells #[.pointer (some ⟨B.s, 0, none⟩), .iface 26 (.pointer (some ⟨B.k, 0, none⟩)), .slice (some ⟨B.pg, 0, none⟩) σ.ths.length σ.ths.length, B.ev] 126 (0, 0)) := by
    refine (hgrow.block B.r (by simp; omega) (fun e => (neo _ e.symm).2.2.2 rfl)).trans ((hp_alloc _ _ _ (by omega)).trans ?_)
    rw [hw4, hw3, hw2]
    exact (hp_other _ _ _ _ nrp).trans ((hp_other _ _ _ _ nrt).trans ((hp_other _ _ _ _ nro).trans (hk1.heap h.run (fun e => e))))
   exact hp_same _ B.r 3 _ e5
  ·show SchedC W6 B.s B.mb.m B.q B.tg (σ.ths.set t _).length σ.picks
   rw [hlen]
   exact K06.heap h.sch (hnS _ _ (Ty.of h.sch) (by decide) (by decide) (by decide) (by decide) (by decide))
  ·obtain ⟨u, hT, hu⟩ := mem_ty h.mem hk
   rcases hu with rfl | rfl | rfl
   ·exact hnS _ _ hT (by decide) (by decide) (by decide) (by decide) (by decide)
   ·exact hnS _ _ hT (by decide) (by decide) (by decide) (by decide) (by decide)
   ·exact hnS _ _ hT (by decide) (by decide) (by decide) (by decide) (by decide)
  ·obtain ⟨u, hT, hu⟩ := src_ty h.src hk
   rcases hu with rfl | rfl
   ·exact hnS _ _ hT (by decide) (by decide) (by decide) (by decide) (by decide)
   ·exact hnS _ _ hT (by decide) (by decide) (by decide) (by decide) (by decide)
  ·show StacksC W6 B.k σ.c.cs (.slice _ (σ.ths.set t _).length (σ.ths.set t _).length) B.og (σ.ths.set t _).length
   rw [hlen]
   exact ⟨h.book.1, K06.heap h.book.2 (hnS _ _ (Ty.of h.book.2) (by decide) (by decide) (by decide) (by decide) (by decide))⟩
  ·show W6.heap[B.tg]? = some (.cells ((B.os.set t (some o)).map machV).toArray 149 (0, 0))
   refine up _ _ ltg (fun e => (neo _ e).2.1 rfl) (fun e => nrt e.symm) ?_
   rw [← map_set, hw4]
   refine (hp_other _ _ _ _ (fun e => npt e.symm)).trans ?_
   rw [hw3]
   refine hp_same _ B.tg t (machV (some o)) ?_
   rw [hw2]
   exact (hp_other _ _ _ _ nog).trans (hk1.heap h.tgc (fun e => e))
  ·show W6.heap[B.og]? = some (.cells ((B.os.set t (some o)).map opV).toArray 65 (0, 0))
   refine up _ _ log (fun e => (neo _ e).1 rfl) (fun e => nro e.symm) ?_
   rw [← map_set, hw4]
   refine (hp_other _ _ _ _ (fun e => npo e.symm)).trans ?_
   rw [hw3]
   refine (hp_other _ _ _ _ (fun e => nog e.symm)).trans ?_
   rw [hw2]
   exact hp_same _ B.og t (opV (some o)) (hk1.heap h.ogc (fun e => e))
  ·show W6.heap[B.pg]? = some (.cells ((σ.ths.set t { x with op := some y, push := push }).map (fun x => Value.bool x.push)).toArray 4 (0, 0))
   refine up _ _ lpg (fun e => (neo _ e).2.2.1 rfl) (fun e => nrp e.symm) ?_
   rw [← map_set, hw4]
   refine hp_same _ B.pg t (.bool push) ?_
   rw [hw3, hw2]
   exact (hp_other _ _ _ _ npt).trans ((hp_other _ _ _ _ npo).trans (hk1.heap h.pgc (fun e => e)))
  ·show W6.heap[B.hg]? = some (.cells (thRow B.sh (σ.ths.set t _)).toArray 85 (0, 0))
   rw [thRow_same B.sh σ.ths _ (fun u => by
    by_cases hu : u = t
    ·subst hu; rw [List.getElem?_set_self ht, hx]; rfl
    ·rw [List.getElem?_set_ne (fun e => hu e.symm)])]
   exact K06.heap h.hgc (hnS _ _ (Ty.of h.hgc) (by decide) (by decide) (by decide) (by decide) (by decide))
  ·show World.ownsRow W6 0 64 5 _ (σ.evs ++ [_]).length ((σ.evs ++ [_]).flatMap evV)
   rw [hw6, List.length_append, List.flatMap_append]
   have e : ([⟨t, false, push, v, 0⟩] : List Ev).flatMap evV = evV ⟨t, false, push, v, 0⟩ := by simp
   rw [e]
   exact row_setCell hown _ (fun k hk => by
    injection hk with hk
    have hk : g' = k := hk
    rw [← hk]
    exact g'r) _
  ·by_cases hu : u = t
   ·subst hu
    have hz2 : (σ.ths.set u { x with op := some y, push := push })[u]? = some z := hz
    rw [List.getElem?_set_self ht] at hz2
    injection hz2 with hz2
    subst hz2
    refine ⟨sv, hsv, ⟨row_step hsh.row fun k hv => ?_, fun _ _ => trivial, hsh.range⟩, hpr, hfew, o, List.getElem?_set_self hot, ?_, hyc⟩
    ·exact K06.block k (hsh.row.lt k hv).2 (hnS _ _ (Ty.row hsh.row hv) (by decide) (by decide) (by decide) (by decide) (by decide))
    ·show OpAt W6 (fun k => if u = u then w.heap.size ≤ k ∧ k < W1.heap.size else B.fp u k) o y
     refine hop.kept (fun k ob hk hh => K16.heap hh (fun e => ?_)) (fun k hk => by rw [if_pos rfl]; exact hk)
     have := lold k e
     omega
   ·have hz2 : (σ.ths.set t { x with op := some y, push := push })[u]? = some z := hz
    rw [List.getElem?_set_ne (fun e => hu e.symm)] at hz2
    refine (h.ths u z hz2).move rfl (List.getElem?_set_ne (fun e => hu e.symm)) ?_ (fun k sv' h1 h2 => ?_) (fun k hk => ?_)
    ·funext k
     show (if u = t then _ else B.fp u k) = B.fp u k
     rw [if_neg hu]
    ·have hT := h.sh_ty h1 h2
     exact K06.block k (by obtain ⟨_, _, hh⟩ := hT; exact lt_of_heap hh) (hnS _ _ hT (by decide) (by decide) (by decide) (by decide) (by decide))
    ·exact K06.block k (h.fpx u k hk).2 (fun e => (h.fpx u k hk).1 (hfix k e))
  ·have hk : (if u = t then w.heap.size ≤ k ∧ k < W1.heap.size else B.fp u k) := hk
   have s6 := K16.size
   have hmlt := h.mem.lt
   have hslt := h.src.lt
   have l1 := lt_of_heap h.sch
   have l2 := lt_of_heap h.book.2
   have l3 := lt_of_heap h.hgc
   have l4 := lt_of_heap h.src.own
   split at hk
   ·refine ⟨fun e => ?_, by omega⟩
    rcases e with e | e | e | e | e | e | e | e | e | e | e | ⟨sv', e, e'⟩
    ·have e : k = B.r := e; omega
    ·have e : k = B.s := e; omega
    ·have e : k = B.q := e; omega
    ·have e : k = B.k := e; omega
    ·have := hmlt k e; omega
    ·have := hslt k (.inr e); omega
    ·have e : k = B.tg := e; omega
    ·have e : k = B.pg := e; omega
    ·have e : k = B.hg := e; omega
    ·have e : k = B.og := e; omega
    ·injection e with e
     have e : g' = k := e
     rcases hat with e' | e'
     ·have := lold g' (.inr (.inr (.inr (.inr e')))); omega
     ·simp at e'; omega
    ·obtain ⟨u', hu'⟩ := List.getElem?_of_mem e
     have hT := h.sh_ty hu' e'
     obtain ⟨_, _, hh⟩ := hT
     have := lt_of_heap hh
     omega
   ·have hf := h.fpx u k hk
    refine ⟨fun e => hf.1 ?_, by omega⟩
    rcases e with e | e | e | e | e | e | e | e | e | e | e | e
    ·exact .inl e
    ·exact .inr (.inl e)
    ·exact .inr (.inr (.inl e))
    ·exact .inr (.inr (.inr (.inl e)))
    ·exact .inr (.inr (.inr (.inr (.inl e))))
    ·exact .inr (.inr (.inr (.inr (.inr (.inl e)))))
    ·exact .inr (.inr (.inr (.inr (.inr (.inr (.inl e))))))
    ·exact .inr (.inr (.inr (.inr (.inr (.inr (.inr (.inl e)))))))
    ·exact .inr (.inr (.inr (.inr (.inr (.inr (.inr (.inr (.inl e))))))))
    ·exact .inr (.inr (.inr (.inr (.inr (.inr (.inr (.inr (.inr (.inl e)))))))))
    ·injection e with e
     exact hfix k (.inr (.inr (.inr (.inr (g'new k hf.2 e)))))
    ·exact .inr (.inr (.inr (.inr (.inr (.inr (.inr (.inr (.inr (.inr (.inr e))))))))))
  ·have hk : (if u = t then w.heap.size ≤ k ∧ k < W1.heap.size else B.fp u k) := hk
   have hk' : (if u' = t then w.heap.size ≤ k ∧ k < W1.heap.size else B.fp u' k) := hk'
   split at hk
   ·split at hk'
    ·omega
    ·have := (h.fpx u' k hk').2; omega
   ·split at hk'
    ·have := (h.fpx u k hk).2; omega
    ·exact h.fpd u u' k hk hk'
 ·exact K06.mono (fun k e => .inl (hfix k e))
 ·intro k hk
  by_cases hl : w.heap.size ≤ k
  ·exact .inr hl
  refine .inl ?_
  rcases hk with (e | e | e | e | e | e | e | e | e | e | e | e) | ⟨u, e⟩
  ·exact .inl (.inl e)
  ·exact .inl (.inr (.inl e))
  ·exact .inl (.inr (.inr (.inl e)))
  ·exact .inl (.inr (.inr (.inr (.inl e))))
  ·exact .inl (.inr (.inr (.inr (.inr (.inl e)))))
  ·exact .inl (.inr (.inr (.inr (.inr (.inr (.inl e))))))
  ·exact .inl (.inr (.inr (.inr (.inr (.inr (.inr (.inl e)))))))
  ·exact .inl (.inr (.inr (.inr (.inr (.inr (.inr (.inr (.inl e))))))))
  ·exact .inl (.inr (.inr (.inr (.inr (.inr (.inr (.inr (.inr (.inl e)))))))))
  ·exact .inl (.inr (.inr (.inr (.inr (.inr (.inr (.inr (.inr (.inr (.inl e))))))))))
  ·injection e with e
   exact .inl (hfix k (.inr (.inr (.inr (.inr (g'new k (by omega) e))))))
  ·exact .inl (.inr (.inr (.inr (.inr (.inr (.inr (.inr (.inr (.inr (.inr (.inr e)))))))))))
  ·have e : (if u = t then w.heap.size ≤ k ∧ k < W1.heap.size else B.fp u k) := e
   split at e
   ·omega
   ·exact .inr ⟨u, e⟩
theorem runner_asked_busy (w : World) (B : RB) (σ : Run) (h : RunAt w B σ) (t : Nat) (x : Th) (hx : σ.ths[t]? = some x) (y : OpS) (hy : x.op = some y) (push : Bool) (v : Int) :
  Calls Tryz.prog 48 #[.pointer (some ⟨B.r, 0, none⟩), .int .i64 t, .bool push, .int .u64 v] w fun e w' => e = .returned (.int .i64 5) ∧ w' = w := by
 have ht : t < σ.ths.length := (List.getElem?_eq_some_iff.1 hx).1
 obtain ⟨sv, _, _, _, _, hop⟩ := h.ths t x hx
 rw [hy] at hop
 obtain ⟨o, ho, _⟩ := hop
 have hc : w.cell? ⟨B.tg, t, none⟩ = some (.iface 65 (.pointer (some ⟨o, 0, none⟩))) := map_cell h.tgc ho
 have hbs := sched_Busy_has w B.s B.mb.m B.q B.tg σ.ths.length σ.picks t _ _ h.sch ht hc
 obtain ⟨q, _, _⟩ := obj_cells h.run
 have c0 : w.cell? ⟨B.r, 0, none⟩ = some (.pointer (some ⟨B.s, 0, none⟩)) := q 0
 clear q h
 go_enter Tryz.func48, Tryz.ntmps48
 go_wp2_with fail
 refine hbs.mono ?_
 rintro e w1 ⟨rfl, rfl⟩
 go_wp2
 go_ret
 exact ⟨rfl, rfl⟩
theorem runner_asked_free (w : World) (B : RB) (σ : Run) (h : RunAt w B σ) (hev : σ.evs.length < 1000000000) (t : Nat) (x : Th) (hx : σ.ths[t]? = some x) (hy : x.op = none) (push : Bool) (v : Int) (hv : 0 ≤ v ∧ v < 18446744073709551616) :
  Calls Tryz.prog 48 #[.pointer (some ⟨B.r, 0, none⟩), .int .i64 t, .bool push, .int .u64 v] w fun e w' => e = .returned (.int .i64 0) ∧ ∃ B', B.Like B' ∧ RunAt w' B' (σ.asked t x push v).1 ∧ Kp B.all w w' ∧ (∀ k, B'.all k → B.all k ∨ w.heap.size ≤ k) := by
 have ht : t < σ.ths.length := (List.getElem?_eq_some_iff.1 hx).1
 have hos : B.os[t]? = some none := by
  obtain ⟨_, _, _, _, _, h5⟩ := h.ths t x hx
  rw [hy] at h5
  exact h5
 have hc : w.cell? ⟨B.tg, t, none⟩ = some .nilIface := map_cell h.tgc hos
 have hcf : w.frozen? ⟨B.tg, t, none⟩ = false := Lib.frozen_of_heap h.tgc t
 have hbs := sched_Busy_nil w B.s B.mb.m B.q B.tg σ.ths.length σ.picks t h.sch ht hc
 have ne1 : B.k ≠ B.og := ne_of_type h.book.2 h.ogc (by decide)
 have ne2 : B.hg ≠ B.og := ne_of_type h.hgc h.ogc (by decide)
 have hask : ∃ y : OpS, (σ.asked t x push v).1 = { σ with ths := σ.ths.set t { x with op := some y, push := push }, evs := σ.evs ++ [⟨t, false, push, v, 0⟩] } ∧ y.c = σ.c ∧ ∀ W, Kp (fun _ => False) w W → Calls Tryz.prog 205 #[.pointer (some ⟨B.k, 0, none⟩), .int .i64 t, .bool push, .int .u64 v] W (AskPost W B.og t y) := by
  refine ⟨if push then newPush σ.c x.shelf x.pol v else newPop σ.c x.shelf x.pol, ?_, ?_, fun W hk => ?_⟩
  ·unfold Run.asked
   rw [hy]
  ·cases push <;> rfl
  ·have h' := h.kept hk (fun _ _ e => e)
   obtain ⟨sv, hsv, hsh, hpr, hfew, t0, t1, t2⟩ := h'.thread hx
   have hu : W.cell? ⟨B.og, t, none⟩ = some (.pointer none) := map_cell h'.ogc hos
   have huf : W.frozen? ⟨B.og, t, none⟩ = false := Lib.frozen_of_heap h'.ogc t
   cases push
   ·exact stacks_Ask_pop W B.k σ.c h.right h.rwt B.hg B.og σ.ths.length t h'.book ht _ sv x.shelf hsh hfew x.pol hpr t0 t1 t2 hu huf ne1 ne2 v
   ·exact stacks_Ask_push W B.k σ.c h.right h.rwt B.hg B.og σ.ths.length t h'.book ht _ sv x.shelf hsh hfew x.pol hpr t0 t1 t2 hu huf ne1 ne2 v hv
 obtain ⟨y, hE, hyc, hAsk⟩ := hask
 rw [hE]
 obtain ⟨q, fq, lr⟩ := obj_cells h.run
 have c0 : w.cell? ⟨B.r, 0, none⟩ = some (.pointer (some ⟨B.s, 0, none⟩)) := q 0
 have c1 : w.cell? ⟨B.r, 1, none⟩ = some (.iface 26 (.pointer (some ⟨B.k, 0, none⟩))) := q 1
 obtain ⟨A, cc, hev0⟩ := row_slice h.evr
 have c2 : w.cell? ⟨B.r, 2, none⟩ = some (.slice (some ⟨B.pg, 0, none⟩) σ.ths.length σ.ths.length) := q 2
 have c3 : w.cell? ⟨B.r, 3, none⟩ = some (.slice A σ.evs.length cc) := by rw [q 3, ← hev0]; rfl
 have f3 : w.frozen? ⟨B.r, 3, none⟩ = false := fq 3
 have cp : w.cell? ⟨B.pg, t, none⟩ = some (.bool x.push) := map_cell h.pgc hx
 have cpf : w.frozen? ⟨B.pg, t, none⟩ = false := Lib.frozen_of_heap h.pgc t
 have np1 : B.pg ≠ B.og := ne_of_type h.pgc h.ogc (by decide)
 have np2 : B.pg ≠ B.tg := ne_of_type h.pgc h.tgc (by decide)
 have np3 : B.r ≠ B.pg := ne_of_type h.run h.pgc (by decide)
 have lpg : B.pg < w.heap.size := lt_of_heap h.pgc
 have ht' : (t : Int) < (σ.ths.length : Int) := by omega
 have nr1 : B.r ≠ B.og := ne_of_type h.run h.ogc (by decide)
 have nr2 : B.r ≠ B.tg := ne_of_type h.run h.tgc (by decide)
 have ns1 : B.s ≠ B.og := ne_of_type h.sch h.ogc (by decide)
 have ns2 : B.tg ≠ B.og := ne_of_type h.tgc h.ogc (by decide)
 have ltg : B.tg < w.heap.size := lt_of_heap h.tgc
 have log : B.og < w.heap.size := lt_of_heap h.ogc
 have hsch := h.sch
 have H := Lib.hid h
 have HASK := Lib.hid hAsk
 have hall : ∀ w' : World, Kp (fun k => k = B.og ∨ k = B.tg) w w' → (w'.cell? ⟨B.r, 0, none⟩ = some (.pointer (some ⟨B.s, 0, none⟩)) ∧ w'.cell? ⟨B.r, 1, none⟩ = some (.iface 26 (.pointer (some ⟨B.k, 0, none⟩)))) := fun w' hk => ⟨hk.cell c0 (fun e => e.elim nr1 nr2), hk.cell c1 (fun e => e.elim nr1 nr2)⟩
 have HA := Lib.hid hall
 have HSCH := Lib.hid hsch
 have HE := Lib.hid hE
 clear q fq h hE hAsk hall hsch
 go_enter Tryz.func48, Tryz.ntmps48
 go_wp2_with fail
 refine hbs.mono ?_
 rintro e w1 ⟨rfl, hw1⟩
 obtain rfl : w = w1 := hw1.symm
 go_wp2_with fail
 go_region_held3 (fun w' => w'.cell? ⟨B.r, 0, none⟩ = some (.pointer (some ⟨B.s, 0, none⟩)) ∧ w'.cell? ⟨B.r, 1, none⟩ = some (.iface 26 (.pointer (some ⟨B.k, 0, none⟩))))
  (first | exact HA.out _ (Kp.refl _ _) | exact HA.out _ (Kp.refl _ _).drew | exact HA.out _ hk3 | exact HA.out _ hk3.drew | exact HA.out _ hk2 | exact HA.out _ hk2.drew)
  ((first
   | (go_at_call 205; refine (HASK.out w.drew (Kp.refl _ _).drew).mono ?_; rintro e w2 ⟨o, W1, rfl, ho, hk1', hop, hw2⟩; have hk1 : Kp (fun _ => False) w W1 := Kp.undrew hk1'; have hk2 : Kp (fun k => k = B.og ∨ k = B.tg) w w2 := (by rw [hw2]; exact Kp.st (hk1.mono (fun _ e => e.elim)) (.inl (.inl rfl)) t _); have hk2o : Kp (fun k => k = B.og) w w2 := (by rw [hw2]; exact Kp.st (S := fun k => k = B.og) (hk1.mono (fun _ e => e.elim)) (.inl rfl) t _); have HW2 := Lib.hid hw2; have HOP := Lib.hid hop; clear hw2 hop)
   | (go_at_call 86; refine (sched_Begin_ok w2 B.s B.mb.m B.q B.tg σ.ths.length σ.picks t _ _ (hk2o.heap HSCH.out ns1) ht (hk2o.cell hc ns2) (hk2o.froz ltg ns2 hcf)).mono ?_; rintro e w3 ⟨rfl, hw3⟩; have hk3 : Kp (fun k => k = B.og ∨ k = B.tg) w w3 := (by rw [hw3]; exact Kp.st hk2 (.inl (.inr rfl)) t _); have HW3 := Lib.hid hw3; clear hw3)))
 have d2 := hk3.cell c2 (fun e => e.elim nr1 nr2)
 have d3 := hk3.cell c3 (fun e => e.elim nr1 nr2)
 have df := hk3.froz lr (fun e => e.elim nr1 nr2) f3
 have dp := hk3.cell cp (fun e => e.elim np1 np2)
 have dpf := hk3.froz lpg (fun e => e.elim np1 np2) cpf
 have nrp : (B.pg = B.r) = False := eq_false (fun e => np3 e.symm)
 clear c0 c1 c2 c3 f3 cp cpf hc hcf
 have hrow4 : (w3.setCell ⟨B.pg, t, none⟩ (.bool push)).ownsRow 0 64 5 (.slice A σ.evs.length cc) σ.evs.length (σ.evs.flatMap evV) := by
  have hE := H.out.evr
  rw [hev0] at hE
  exact row_setCell (hk3.row hE (fun k hk e => e.elim ((Ty.row hE hk).ne (Ty.of H.out.ogc) (by decide)) ((Ty.row hE hk).ne (Ty.of H.out.tgc) (by decide)))) _ (fun k hk => (Ty.row hE hk).ne (Ty.of H.out.pgc) (by decide)) _
 have n1 : some B.r ≠ (Value.slice A σ.evs.length cc).ownBlock := fun e => by
  have hE := H.out.evr
  rw [hev0] at hE
  exact (Ty.row hE e.symm).ne (Ty.of H.out.run) (by decide) rfl
 have HR4 := Lib.hid hrow4
 obtain ⟨i0, hi, hz0, hz1, hz2⟩ := info_parts info_ev
 have e2 : (w3.setCell ⟨B.pg, t, none⟩ (.bool push)).cell? ⟨B.r, 3, none⟩ = some (.slice A σ.evs.length cc) := (hs_other _ _ _ _ (by simp [nrp])).trans d3
 have lr3 : B.r < (w3.setCell ⟨B.pg, t, none⟩ (.bool push)).heap.size := by have := hk3.size; simp [World.setCell]; omega
 have hnew : ∀ j u, ([.int .i64 (t : Int), .bool false, .bool push, .int .u64 v, .int .i64 0] : List Value)[j]? = some u → ((w3.setCell ⟨B.pg, t, none⟩ (.bool push)).alloc (.cells #[.int .i64 (t : Int), .bool false, .bool push, .int .u64 v, .int .i64 0] 64)).cell? ((⟨w3.heap.size, 0, none⟩ : Addr).add j) = some u := by
  have e : (w3.setCell ⟨B.pg, t, none⟩ (.bool push)).heap.size = w3.heap.size := by simp [World.setCell]
  rw [← e]
  exact World.news_of_block (heap_alloc_new _ _)
 have dfs : (w3.setCell ⟨B.pg, t, none⟩ (.bool push)).frozen? ⟨B.r, 3, none⟩ = false := by rw [World.frozen?_setCell]; exact df
 have HN := Lib.hid hnew
 clear hrow4 hnew
 go_wp2_with (at_builtin; refine wpList_append_lies _ rfl _ _ 45 rfl 0 64 i0 _ 5 32 Tryz.underlying45 hi hz0 hz1 hz2 rfl (by decide) (.slice A σ.evs.length cc) σ.evs.length _ rfl (row_alloc HR4.out _) ⟨w3.heap.size, 0, none⟩ 1 1 [.int .i64 (t : Int), .bool false, .bool push, .int .u64 v, .int .i64 0] rfl rfl HN.out (by simp [Value.oneCell']) (by omega) (by unfold maxLen; omega) (by omega) (by simp) _ rfl ?_)
 intro g' cap' W5 hown5 hgrow hat hlt
 have q1 := hgrow.cell (kc _ e2) n1
 have q2 := gf hgrow n1 (by have := hk3.size; simp [World.setCell]; omega) (kf _ lr3 dfs)
 have HG := Lib.hid hgrow
 have HOW := Lib.hid hown5
 clear hgrow hown5
 go_wp2_with fail
 go_ret
 refine ⟨rfl, ?_⟩
 skip
 exact asked_done H.out hx hy hyc (by have := hk1.size; exact ho) hk1 HOP.out HW2.out HW3.out rfl (by rw [hev0]; exact HG.out) HOW.out (by rw [hev0]; simpa [World.setCell] using hat) hlt rfl
end Go.Proofs.YtgdoeoackhfikaaGreatDoor

namespace Go.Proofs.YtgdoeoackhfikaaGreatDoor
open Go.RowKit Go.Proofs.YtgdoeoackhfikaaGreatDoorW.PrintWords
set_option maxRecDepth 100000
set_option maxHeartbeats 4000000
set_option linter.unusedSimpArgs false
set_option linter.unusedVariables false
attribute [local go_sem] hs_other hs_alloc hs_falloc
attribute [local go_sem ↓] Go.wp_at_zero Go.wp_at_succ
def DoPost (w : World) (B : RB) (z : Run × Int) (e : Ending) (w' : World) : Prop :=
 e = .returned (.int .i64 z.2) ∧ ∃ B', B.Like B' ∧ RunAt w' B' z.1 ∧ Kp B.all w w' ∧ (∀ k, B'.all k → B.all k ∨ w.heap.size ≤ k)
structure ArgsAt (w : World) (ad : Addr) (l : List Int) : Prop where
 cells : ∀ j u, (nums .u64 l)[j]? = some u → w.cell? (ad.add j) = some u
 range : ∀ z ∈ l, 0 ≤ z ∧ z < 18446744073709551616
theorem DoPost.same {w : World} {B : RB} {σ : Run} (h : RunAt w B σ) {st : Int} {e : Ending} {w' : World} (he : e = .returned (.int .i64 st)) (hk : Below w.heap.size w w') : DoPost w B (σ, st) e w' :=
 ⟨he, B, RB.Like.refl B, h.kept (Kp.nb hk) (fun _ _ e => e), Kp.of_below hk _, fun k e => .inl e⟩
theorem RunAt.ticked {w : World} {B : RB} {σ : Run} (h : RunAt w B σ) (t : Int) (ht : 0 ≤ t) : RunAt (w.setCell ⟨B.q, 0, none⟩ (.int .u64 (later σ.src.now t))) B { σ with src := σ.src.tick t } := by
 have K : Kp (fun k => k = B.q) w (w.setCell ⟨B.q, 0, none⟩ (.int .u64 (later σ.src.now t))) := Kp.st (S := fun k => k = B.q) (Kp.refl _ _) (.inl rfl) 0 _
 have hn : ∀ k u, Ty w k u → u ≠ 138 → ¬ k = B.q := fun k u hT hu e => hT.ne (Ty.of h.src.own) hu e
 have hr := h.src.range
 refine ⟨h.n8, h.ls, h.lo, K.heap h.run (hn _ _ (Ty.of h.run) (by decide)), K.heap h.sch (hn _ _ (Ty.of h.sch) (by decide)), h.mem.kept K (fun k hk => ?_), ⟨hp_same _ B.q 0 _ h.src.own, K.row h.src.row (fun k hk => hn _ _ (Ty.row h.src.row hk) (by decide)), ?_, h.src.dr⟩, ⟨h.book.1, K.heap h.book.2 (hn _ _ (Ty.of h.book.2) (by decide))⟩,
  K.heap h.tgc (hn _ _ (Ty.of h.tgc) (by decide)), K.heap h.ogc (hn _ _ (Ty.of h.ogc) (by decide)), K.heap h.pgc (hn _ _ (Ty.of h.pgc) (by decide)), K.heap h.hgc (hn _ _ (Ty.of h.hgc) (by decide)), K.row h.evr (fun k hk => hn _ _ (Ty.row h.evr hk) (by decide)), h.right, h.rwt, h.pk, fun u z hz => ?_, fun u k hk => ⟨(h.fpx u k hk).1, Nat.lt_of_lt_of_le (h.fpx u k hk).2 K.size⟩, h.fpd⟩
 ·obtain ⟨u, hT, hu⟩ := mem_ty h.mem hk
  rcases hu with rfl | rfl | rfl <;> exact hn _ _ hT (by decide)
 ·show 0 ≤ later σ.src.now t ∧ later σ.src.now t < 18446744073709551616
  unfold later
  omega
 ·refine (h.ths u z hz).move rfl rfl rfl (fun k sv' h1 h2 => ?_) (fun k hk => ?_)
  ·have hT := h.sh_ty h1 h2
   exact K.block k (by obtain ⟨_, _, hh⟩ := hT; exact lt_of_heap hh) (hn _ _ hT (by decide))
  ·exact K.block k (h.fpx u k hk).2 (fun e => (h.fpx u k hk).1 (.inr (.inr (.inl e))))
theorem RunAt.drawnOne {w W : World} {B : RB} {σ : Run} (h : RunAt w B σ) (d : Int) (hp : SrcPost w B.q B.dv { σ.src with draws := σ.src.draws ++ [d] } W) : ∃ B', B.Like B' ∧ RunAt W B' { σ with src := { σ.src with draws := σ.src.draws ++ [d] } } ∧ Kp B.all w W ∧ (∀ k, B'.all k → B.all k ∨ w.heap.size ≤ k) := by
 obtain ⟨dv', hs, hd, K⟩ := hp
 have hn : ∀ k u, Ty w k u → u ≠ 138 → u ≠ 3 → ¬ (k = B.q ∨ B.dv.ownBlock = some k) := fun k u hT h1 h2 e => by
  obtain ⟨v, hv, hu⟩ := src_ty h.src e
  rcases hu with rfl | rfl
  ·exact hT.ne hv h1 rfl
  ·exact hT.ne hv h2 rfl
 have fixO : ∀ k, k < w.heap.size → RB.fix { B with dv := dv' } k → B.fix k := fun k hl e => by
  rcases e with e | e | e | e | e | e | e
  ·exact .inl e
  ·exact .inr (.inl e)
  ·exact .inr (.inr (.inl e))
  ·exact .inr (.inr (.inr (.inl e)))
  ·exact .inr (.inr (.inr (.inr (.inl e))))
  ·rcases hd k e with e | e
   ·exact .inr (.inr (.inr (.inr (.inr (.inl e)))))
   ·omega
  ·exact .inr (.inr (.inr (.inr (.inr (.inr e)))))
 refine ⟨{ B with dv := dv' }, ⟨rfl, rfl, rfl, rfl, rfl⟩, ?_, K.mono (fun k e => ?_), fun k hk => ?_⟩
 ·refine ⟨h.n8, h.ls, h.lo, K.heap h.run (hn _ _ (Ty.of h.run) (by decide) (by decide)), K.heap h.sch (hn _ _ (Ty.of h.sch) (by decide) (by decide)), h.mem.kept K (fun k hk => ?_), hs, ⟨h.book.1, K.heap h.book.2 (hn _ _ (Ty.of h.book.2) (by decide) (by decide))⟩,
   K.heap h.tgc (hn _ _ (Ty.of h.tgc) (by decide) (by decide)), K.heap h.ogc (hn _ _ (Ty.of h.ogc) (by decide) (by decide)), K.heap h.pgc (hn _ _ (Ty.of h.pgc) (by decide) (by decide)), K.heap h.hgc (hn _ _ (Ty.of h.hgc) (by decide) (by decide)), K.row h.evr (fun k hk => hn _ _ (Ty.row h.evr hk) (by decide) (by decide)), h.right, h.rwt, h.pk, fun u z hz => ?_, fun u k hk => ⟨fun e => (h.fpx u k hk).1 (fixO k (h.fpx u k hk).2 e), Nat.lt_of_lt_of_le (h.fpx u k hk).2 K.size⟩, h.fpd⟩
  ·obtain ⟨u, hT, hu⟩ := mem_ty h.mem hk
   rcases hu with rfl | rfl | rfl <;> exact hn _ _ hT (by decide) (by decide)
  ·refine (h.ths u z hz).move rfl rfl rfl (fun k sv' h1 h2 => ?_) (fun k hk => ?_)
   ·have hT := h.sh_ty h1 h2
    exact K.block k (by obtain ⟨_, _, hh⟩ := hT; exact lt_of_heap hh) (hn _ _ hT (by decide) (by decide))
   ·exact K.block k (h.fpx u k hk).2 (fun e => (h.fpx u k hk).1 (e.elim (fun e => .inr (.inr (.inl e))) (fun e => .inr (.inr (.inr (.inr (.inr (.inl e))))))))
 ·rcases e with e | e
  ·exact .inl (.inr (.inr (.inl e)))
  ·exact .inl (.inr (.inr (.inr (.inr (.inr (.inl e))))))
 ·by_cases hl : w.heap.size ≤ k
  ·exact .inr hl
  rcases hk with e | e
  ·exact .inl (.inl (fixO k (by omega) e))
  ·exact .inl (.inr e)
theorem runner_Do_clock (w : World) (B : RB) (σ : Run) (h : RunAt w B σ) (ad : Addr) (c : Nat) (a at_ : Int) (ha : ArgsAt w ad [a]) (hap : ¬ B.all ad.block) :
  Calls Tryz.prog 14 #[.pointer (some ⟨B.r, 0, none⟩), .agg #[.int .i32 8987, .slice (some ad) 1 c, .bool true, .int .i64 at_]] w (DoPost w B ({ σ with src := σ.src.tick a }, 0)) := by
 have hnum : numbersOf 8987 = 1 := rfl
 have ca : w.cell? ad = some (.int .u64 a) := by have := ha.cells 0 _ rfl; rwa [Addr.add_zero'] at this
 have hra := ha.range a (by simp)
 have htk := fun W (hk : Kp (fun _ => False) w W) => sched_Tick W B.s B.mb.m B.q B.tg σ.ths.length σ.picks σ.src.now B.dv (hk.heap h.sch (fun e => e)) (hk.heap h.src.own (fun e => e)) h.src.range a hra
 have HT := Lib.hid htk
 have nrq : B.r ≠ B.q := ne_of_type h.run h.src.own (by decide)
 have lq := lt_of_heap h.src.own
 have naq : ad.block ≠ B.q := fun e => hap (.inl (.inr (.inr (.inl e))))
 obtain ⟨q, _, lr⟩ := obj_cells h.run
 have c0 : w.cell? ⟨B.r, 0, none⟩ = some (.pointer (some ⟨B.s, 0, none⟩)) := q 0
 have c2 : w.cell? ⟨B.r, 2, none⟩ = some (.slice (some ⟨B.pg, 0, none⟩) σ.ths.length σ.ths.length) := q 2
 have H := Lib.hid h
 clear q
 clear h ha htk
 go_enter Tryz.func14, Tryz.ntmps14
 go_wp2_with fail
 refine (runner_numbers 8987 _).mono ?_
 rintro e w1 ⟨rfl, hw1⟩
 rw [hnum]
 have hk1 : Kp (fun _ => False) w w1 := by rw [hw1]; exact (Kp.refl _ _).alloc _
 have hO1 : w1.heap[w.heap.size]? = some (.cells #[.int .i32 8987, .slice (some ad) 1 c, .bool true, .int .i64 at_] 39 (0, 0)) := by rw [hw1]; exact hp_new _ _ _ rfl
 obtain ⟨r, _, lbx⟩ := obj_cells hO1
 have b0 : w1.cell? ⟨w.heap.size, 0, none⟩ = some (.int .i32 8987) := r 0
 have b1 : w1.cell? ⟨w.heap.size, 1, none⟩ = some (.slice (some ad) 1 c) := r 1
 have b2 : w1.cell? ⟨w.heap.size, 2, none⟩ = some (.bool true) := r 2
 have d0 := hk1.cell c0 (fun e => e)
 have d2 := hk1.cell c2 (fun e => e)
 have da := hk1.cell ca (fun e => e)
 have hall : ∀ w' : World, Kp (fun k => k = B.q) w1 w' → (w'.cell? ⟨B.r, 0, none⟩ = some (.pointer (some ⟨B.s, 0, none⟩)) ∧ w'.cell? ⟨w.heap.size, 1, none⟩ = some (.slice (some ad) 1 c) ∧ w'.cell? ad = some (.int .u64 a)) := fun w' hk => ⟨hk.cell d0 nrq, hk.cell b1 (by intro e; have e : w.heap.size = B.q := e; omega), hk.cell da naq⟩
 have HA := Lib.hid hall
 clear r hw1 c0 c2 ca hall hO1
 go_wp2_with fail
 go_region_held3 (fun w' => w'.cell? ⟨B.r, 0, none⟩ = some (.pointer (some ⟨B.s, 0, none⟩)) ∧ w'.cell? ⟨w.heap.size, 1, none⟩ = some (.slice (some ad) 1 c) ∧ w'.cell? ad = some (.int .u64 a))
  (first | exact HA.out _ (Kp.refl _ _) | exact HA.out _ (Kp.refl _ _).drew | exact HA.out _ hk2)
  ((go_at_call 44; refine (HT.out w1.drew hk1.drew).mono ?_; rintro e w2 ⟨rfl, hw2⟩; have hk2 : Kp (fun k => k = B.q) w1 w2 := (by rw [hw2]; exact Kp.st (S := fun k => k = B.q) (Kp.refl _ _).drew (.inl rfl) 0 _); have HW2 := Lib.hid hw2; clear hw2))
 go_wp2
 go_ret
 refine ⟨rfl, B, RB.Like.refl B, ?_, ?_, fun k e => .inl e⟩
 ·rw [HW2.out]
  exact (H.out.kept hk1.drew (fun _ _ e => e)).ticked a hra.1
 ·exact (hk1.mono (fun _ e => e.elim)).comp (hk2.mono (fun k e => e)) (fun k _ e => by have e : k = B.q := e; exact .inl (.inr (.inr (.inl e))))
theorem runner_Do_dice (w : World) (B : RB) (σ : Run) (h : RunAt w B σ) (ad : Addr) (c : Nat) (a at_ : Int) (ha : ArgsAt w ad [a]) (hap : ¬ B.all ad.block) (hl : σ.src.draws.length ≤ 1000000000) (hd : a < 64) :
  Calls Tryz.prog 14 #[.pointer (some ⟨B.r, 0, none⟩), .agg #[.int .i32 9858, .slice (some ad) 1 c, .bool true, .int .i64 at_]] w (DoPost w B ({ σ with src := { σ.src with draws := σ.src.draws ++ [a] } }, 0)) := by
 have hnum : numbersOf 9858 = 1 := rfl
 have ca : w.cell? ad = some (.int .u64 a) := by have := ha.cells 0 _ rfl; rwa [Addr.add_zero'] at this
 have hra := ha.range a (by simp)
 have htk := fun W (hk : Kp (fun _ => False) w W) => sched_Draw W B.s B.mb.m B.q B.tg σ.ths.length σ.picks (hk.heap h.sch (fun e => e)) B.dv σ.src (h.kept hk (fun _ _ e => e)).src hl a ⟨hra.1, hd⟩
 have HT := Lib.hid htk
 have nrq : ¬ (B.r = B.q ∨ B.dv.ownBlock = some B.r) := fun e => by
  obtain ⟨v, hv, hu⟩ := src_ty h.src e
  rcases hu with rfl | rfl
  ·exact (Ty.of h.run).ne hv (by decide) rfl
  ·exact (Ty.of h.run).ne hv (by decide) rfl
 have lqd := h.src.lt
 have naq : ¬ (ad.block = B.q ∨ B.dv.ownBlock = some ad.block) := fun e => hap (.inl (e.elim (fun e => .inr (.inr (.inl e))) (fun e => .inr (.inr (.inr (.inr (.inr (.inl e))))))))
 obtain ⟨q, _, lr⟩ := obj_cells h.run
 have c0 : w.cell? ⟨B.r, 0, none⟩ = some (.pointer (some ⟨B.s, 0, none⟩)) := q 0
 have c2 : w.cell? ⟨B.r, 2, none⟩ = some (.slice (some ⟨B.pg, 0, none⟩) σ.ths.length σ.ths.length) := q 2
 have H := Lib.hid h
 clear q
 clear h ha htk
 go_enter Tryz.func14, Tryz.ntmps14
 go_wp2_with fail
 refine (runner_numbers 9858 _).mono ?_
 rintro e w1 ⟨rfl, hw1⟩
 rw [hnum]
 have hk1 : Kp (fun _ => False) w w1 := by rw [hw1]; exact (Kp.refl _ _).alloc _
 have hO1 : w1.heap[w.heap.size]? = some (.cells #[.int .i32 9858, .slice (some ad) 1 c, .bool true, .int .i64 at_] 39 (0, 0)) := by rw [hw1]; exact hp_new _ _ _ rfl
 obtain ⟨r, _, lbx⟩ := obj_cells hO1
 have b0 : w1.cell? ⟨w.heap.size, 0, none⟩ = some (.int .i32 9858) := r 0
 have b1 : w1.cell? ⟨w.heap.size, 1, none⟩ = some (.slice (some ad) 1 c) := r 1
 have b2 : w1.cell? ⟨w.heap.size, 2, none⟩ = some (.bool true) := r 2
 have d0 := hk1.cell c0 (fun e => e)
 have d2 := hk1.cell c2 (fun e => e)
 have da := hk1.cell ca (fun e => e)
 have hall : ∀ w' : World, Kp (fun k => k = B.q ∨ B.dv.ownBlock = some k) w1 w' → (w'.cell? ⟨B.r, 0, none⟩ = some (.pointer (some ⟨B.s, 0, none⟩)) ∧ w'.cell? ⟨w.heap.size, 1, none⟩ = some (.slice (some ad) 1 c) ∧ w'.cell? ad = some (.int .u64 a)) := fun w' hk => ⟨hk.cell d0 nrq, hk.cell b1 (fun e => by have := lqd _ e; have : w.heap.size < w.heap.size := this; omega), hk.cell da naq⟩
 have HA := Lib.hid hall
 clear r hw1 c0 c2 ca hall hO1 lqd
 go_wp2_with fail
 go_region_held3 (fun w' => w'.cell? ⟨B.r, 0, none⟩ = some (.pointer (some ⟨B.s, 0, none⟩)) ∧ w'.cell? ⟨w.heap.size, 1, none⟩ = some (.slice (some ad) 1 c) ∧ w'.cell? ad = some (.int .u64 a))
  (first | exact HA.out _ (Kp.refl _ _) | exact HA.out _ (Kp.refl _ _).drew | exact HA.out _ hk2)
  ((go_at_call 45; refine (HT.out w1.drew hk1.drew).mono ?_; rintro e w2 ⟨rfl, hsp⟩; have hk2 : Kp (fun k => k = B.q ∨ B.dv.ownBlock = some k) w1 w2 := Kp.undrew (by obtain ⟨_, _, _, K⟩ := hsp; exact K); have HSP := Lib.hid hsp; clear hsp))
 go_wp2
 go_ret
 obtain ⟨B', z1, z2, z3, z4⟩ := (H.out.kept hk1.drew (fun _ _ e => e)).drawnOne a HSP.out
 exact ⟨rfl, B', z1, z2, (hk1.drew.mono (fun _ e => e.elim)).comp z3 (fun _ _ e => e), fun k e => (z4 k e).imp id (fun e => Nat.le_trans hk1.size e)⟩
theorem runner_Do_dice_no (w : World) (B : RB) (σ : Run) (h : RunAt w B σ) (ad : Addr) (c : Nat) (a at_ : Int) (ha : ArgsAt w ad [a]) (hap : ¬ B.all ad.block) (hd : ¬ a < 64) :
  Calls Tryz.prog 14 #[.pointer (some ⟨B.r, 0, none⟩), .agg #[.int .i32 9858, .slice (some ad) 1 c, .bool true, .int .i64 at_]] w (DoPost w B (σ, 1)) := by
 have hnum : numbersOf 9858 = 1 := rfl
 have ca : w.cell? ad = some (.int .u64 a) := by have := ha.cells 0 _ rfl; rwa [Addr.add_zero'] at this
 have hra := ha.range a (by simp)
 have htk := fun W (hk : Kp (fun _ => False) w W) => sched_Draw_no W B.s B.mb.m B.q B.tg σ.ths.length σ.picks (hk.heap h.sch (fun e => e)) a (by omega)
 have HT := Lib.hid htk
 have nrq : ¬ (B.r = B.q ∨ B.dv.ownBlock = some B.r) := fun e => by
  obtain ⟨v, hv, hu⟩ := src_ty h.src e
  rcases hu with rfl | rfl
  ·exact (Ty.of h.run).ne hv (by decide) rfl
  ·exact (Ty.of h.run).ne hv (by decide) rfl
 have lqd := h.src.lt
 have naq : ¬ (ad.block = B.q ∨ B.dv.ownBlock = some ad.block) := fun e => hap (.inl (e.elim (fun e => .inr (.inr (.inl e))) (fun e => .inr (.inr (.inr (.inr (.inr (.inl e))))))))
 obtain ⟨q, _, lr⟩ := obj_cells h.run
 have c0 : w.cell? ⟨B.r, 0, none⟩ = some (.pointer (some ⟨B.s, 0, none⟩)) := q 0
 have c2 : w.cell? ⟨B.r, 2, none⟩ = some (.slice (some ⟨B.pg, 0, none⟩) σ.ths.length σ.ths.length) := q 2
 have H := Lib.hid h
 clear q
 clear h ha htk
 go_enter Tryz.func14, Tryz.ntmps14
 go_wp2_with fail
 refine (runner_numbers 9858 _).mono ?_
 rintro e w1 ⟨rfl, hw1⟩
 rw [hnum]
 have hk1 : Kp (fun _ => False) w w1 := by rw [hw1]; exact (Kp.refl _ _).alloc _
 have hO1 : w1.heap[w.heap.size]? = some (.cells #[.int .i32 9858, .slice (some ad) 1 c, .bool true, .int .i64 at_] 39 (0, 0)) := by rw [hw1]; exact hp_new _ _ _ rfl
 obtain ⟨r, _, lbx⟩ := obj_cells hO1
 have b0 : w1.cell? ⟨w.heap.size, 0, none⟩ = some (.int .i32 9858) := r 0
 have b1 : w1.cell? ⟨w.heap.size, 1, none⟩ = some (.slice (some ad) 1 c) := r 1
 have b2 : w1.cell? ⟨w.heap.size, 2, none⟩ = some (.bool true) := r 2
 have d0 := hk1.cell c0 (fun e => e)
 have d2 := hk1.cell c2 (fun e => e)
 have da := hk1.cell ca (fun e => e)
 have hall : ∀ w' : World, Kp (fun k => k = B.q ∨ B.dv.ownBlock = some k) w1 w' → (w'.cell? ⟨B.r, 0, none⟩ = some (.pointer (some ⟨B.s, 0, none⟩)) ∧ w'.cell? ⟨w.heap.size, 1, none⟩ = some (.slice (some ad) 1 c) ∧ w'.cell? ad = some (.int .u64 a)) := fun w' hk => ⟨hk.cell d0 nrq, hk.cell b1 (fun e => by have := lqd _ e; have : w.heap.size < w.heap.size := this; omega), hk.cell da naq⟩
 have HA := Lib.hid hall
 clear r hw1 c0 c2 ca hall hO1 lqd
 go_wp2_with fail
 go_region_held3 (fun w' => w'.cell? ⟨B.r, 0, none⟩ = some (.pointer (some ⟨B.s, 0, none⟩)) ∧ w'.cell? ⟨w.heap.size, 1, none⟩ = some (.slice (some ad) 1 c) ∧ w'.cell? ad = some (.int .u64 a))
  (first | exact HA.out _ (Kp.refl _ _) | exact HA.out _ (Kp.refl _ _).drew | exact HA.out _ hk2)
  ((go_at_call 45; refine (HT.out w1.drew hk1.drew).mono ?_; rintro e w2 ⟨rfl, hw2⟩; have hk2 : Kp (fun k => k = B.q ∨ B.dv.ownBlock = some k) w1 w2 := (by rw [hw2]; exact (Kp.refl _ _).drew); have HW2 := Lib.hid hw2; clear hw2))
 go_wp2
 go_ret
 rw [HW2.out]
 exact ⟨rfl, B, RB.Like.refl B, H.out.kept hk1.drew (fun _ _ e => e), hk1.drew.mono (fun _ e => e.elim), fun k e => .inl e⟩
end Go.Proofs.YtgdoeoackhfikaaGreatDoor

namespace Go.Proofs.YtgdoeoackhfikaaGreatDoor
open Go.RowKit Go.Proofs.YtgdoeoackhfikaaGreatDoorW.PrintWords
set_option maxRecDepth 100000
set_option maxHeartbeats 4000000
set_option linter.unusedSimpArgs false
set_option linter.unusedVariables false
attribute [local go_sem] hs_other hs_alloc hs_falloc
attribute [local go_sem ↓] Go.wp_at_zero Go.wp_at_succ
theorem DoPost.before {w W w' : World} {B : RB} {z : Run × Int} {e : Ending} (hk : Kp (fun _ => False) w W) (h : DoPost W B z e w') : DoPost w B z e w' := by
 obtain ⟨h1, B', z1, z2, z3, z4⟩ := h
 exact ⟨h1, B', z1, z2, (hk.mono (fun _ e => e.elim)).comp z3 (fun _ _ e => e), fun k e => (z4 k e).imp id (fun e => Nat.le_trans hk.size e)⟩
theorem wrap_small (a : Int) (h : 0 ≤ a ∧ a < 1000) : IntKind.i64.wrap a = a := by
 simp [IntKind.wrap, IntKind.bits, IntKind.signed]; omega
theorem runner_Do_none_8226 (w : World) (B : RB) (σ : Run) (h : RunAt w B σ) (ad : Addr) (c : Nat) (a at_ : Int) (ha : ArgsAt w ad [a]) (hn : (σ.ths.length : Int) ≤ a) :
  Calls Tryz.prog 14 #[.pointer (some ⟨B.r, 0, none⟩), .agg #[.int .i32 8226, .slice (some ad) 1 c, .bool true, .int .i64 at_]] w (DoPost w B (σ, 4)) := by
 have hnum : numbersOf 8226 = 1 := rfl
 have ca : w.cell? ad = some (.int .u64 a) := by have := ha.cells 0 _ rfl; rwa [Addr.add_zero'] at this
 have hra := ha.range a (by simp)
 have hth := fun W (hk : Kp (fun _ => False) w W) => runner_thread W B.r B.s σ.ths.length _ B.ev (some ⟨B.pg, 0, none⟩) σ.ths.length a (hk.heap h.run (fun e => e)) hra h.n8.2
 have hdt : decide (a < (σ.ths.length : Int)) = false := decide_eq_false (by omega)
 rw [hdt] at hth
 obtain ⟨q, _, lr⟩ := obj_cells h.run
 have c0 : w.cell? ⟨B.r, 0, none⟩ = some (.pointer (some ⟨B.s, 0, none⟩)) := q 0
 have H := Lib.hid h
 have HTH := Lib.hid hth
 clear q h ha hth
 go_enter Tryz.func14, Tryz.ntmps14
 go_wp2_with fail
 refine (runner_numbers 8226 _).mono ?_
 rintro e w1 ⟨rfl, hw1⟩
 rw [hnum]
 have hk1 : Kp (fun _ => False) w w1 := by rw [hw1]; exact (Kp.refl _ _).alloc _
 have hO1 : w1.heap[w.heap.size]? = some (.cells #[.int .i32 8226, .slice (some ad) 1 c, .bool true, .int .i64 at_] 39 (0, 0)) := by rw [hw1]; exact hp_new _ _ _ rfl
 obtain ⟨r, _, lbx⟩ := obj_cells hO1
 have b0 : w1.cell? ⟨w.heap.size, 0, none⟩ = some (.int .i32 8226) := r 0
 have b1 : w1.cell? ⟨w.heap.size, 1, none⟩ = some (.slice (some ad) 1 c) := r 1
 have b2 : w1.cell? ⟨w.heap.size, 2, none⟩ = some (.bool true) := r 2
 have d0 := hk1.cell c0 (fun e => e)
 have da := hk1.cell ca (fun e => e)
 clear r hw1 c0 ca
 go_wp2_with fail
 refine (HTH.out _ (hk1)).mono ?_
 rintro e w2 ⟨rfl, hb2⟩
 have hk2 : Kp (fun _ => False) w1 w2 := Kp.nb hb2
 have hO2 := hk2.heap hO1 (fun e => e)
 have hkw2 : Kp (fun _ => False) w w2 := hk1.also hk2
 have g0 := hk2.cell b0 (fun e => e)
 have g1 := hk2.cell b1 (fun e => e)
 have e0 := hk2.cell d0 (fun e => e)
 have ea := hk2.cell da (fun e => e)
 clear b0 b1 b2 d0 da hb2 hO1
 go_wp2
 go_ret
 exact ⟨rfl, B, RB.Like.refl B, H.out.kept hkw2 (fun _ _ e => e), hkw2.mono (fun _ e => e.elim), fun k e => .inl e⟩
theorem runner_Do_none_8595 (w : World) (B : RB) (σ : Run) (h : RunAt w B σ) (ad : Addr) (c : Nat) (a at_ : Int) (ha : ArgsAt w ad [a]) (hn : (σ.ths.length : Int) ≤ a) :
  Calls Tryz.prog 14 #[.pointer (some ⟨B.r, 0, none⟩), .agg #[.int .i32 8595, .slice (some ad) 1 c, .bool true, .int .i64 at_]] w (DoPost w B (σ, 4)) := by
 have hnum : numbersOf 8595 = 1 := rfl
 have ca : w.cell? ad = some (.int .u64 a) := by have := ha.cells 0 _ rfl; rwa [Addr.add_zero'] at this
 have hra := ha.range a (by simp)
 have hth := fun W (hk : Kp (fun _ => False) w W) => runner_thread W B.r B.s σ.ths.length _ B.ev (some ⟨B.pg, 0, none⟩) σ.ths.length a (hk.heap h.run (fun e => e)) hra h.n8.2
 have hdt : decide (a < (σ.ths.length : Int)) = false := decide_eq_false (by omega)
 rw [hdt] at hth
 obtain ⟨q, _, lr⟩ := obj_cells h.run
 have c0 : w.cell? ⟨B.r, 0, none⟩ = some (.pointer (some ⟨B.s, 0, none⟩)) := q 0
 have H := Lib.hid h
 have HTH := Lib.hid hth
 clear q h ha hth
 go_enter Tryz.func14, Tryz.ntmps14
 go_wp2_with fail
 refine (runner_numbers 8595 _).mono ?_
 rintro e w1 ⟨rfl, hw1⟩
 rw [hnum]
 have hk1 : Kp (fun _ => False) w w1 := by rw [hw1]; exact (Kp.refl _ _).alloc _
 have hO1 : w1.heap[w.heap.size]? = some (.cells #[.int .i32 8595, .slice (some ad) 1 c, .bool true, .int .i64 at_] 39 (0, 0)) := by rw [hw1]; exact hp_new _ _ _ rfl
 obtain ⟨r, _, lbx⟩ := obj_cells hO1
 have b0 : w1.cell? ⟨w.heap.size, 0, none⟩ = some (.int .i32 8595) := r 0
 have b1 : w1.cell? ⟨w.heap.size, 1, none⟩ = some (.slice (some ad) 1 c) := r 1
 have b2 : w1.cell? ⟨w.heap.size, 2, none⟩ = some (.bool true) := r 2
 have d0 := hk1.cell c0 (fun e => e)
 have da := hk1.cell ca (fun e => e)
 clear r hw1 c0 ca
 go_wp2_with fail
 refine (HTH.out _ (hk1)).mono ?_
 rintro e w2 ⟨rfl, hb2⟩
 have hk2 : Kp (fun _ => False) w1 w2 := Kp.nb hb2
 have hO2 := hk2.heap hO1 (fun e => e)
 have hkw2 : Kp (fun _ => False) w w2 := hk1.also hk2
 have g0 := hk2.cell b0 (fun e => e)
 have g1 := hk2.cell b1 (fun e => e)
 have e0 := hk2.cell d0 (fun e => e)
 have ea := hk2.cell da (fun e => e)
 clear b0 b1 b2 d0 da hb2 hO1
 go_wp2
 go_ret
 exact ⟨rfl, B, RB.Like.refl B, H.out.kept hkw2 (fun _ _ e => e), hkw2.mono (fun _ e => e.elim), fun k e => .inl e⟩
theorem runner_Do_none_8593 (w : World) (B : RB) (σ : Run) (h : RunAt w B σ) (ad : Addr) (c : Nat) (a b at_ : Int) (ha : ArgsAt w ad [a, b]) (hn : (σ.ths.length : Int) ≤ a) :
  Calls Tryz.prog 14 #[.pointer (some ⟨B.r, 0, none⟩), .agg #[.int .i32 8593, .slice (some ad) 2 c, .bool true, .int .i64 at_]] w (DoPost w B (σ, 4)) := by
 have hnum : numbersOf 8593 = 2 := rfl
 have ca : w.cell? ad = some (.int .u64 a) := by have := ha.cells 0 _ rfl; rwa [Addr.add_zero'] at this
 have hra := ha.range a (by simp)
 have hth := fun W (hk : Kp (fun _ => False) w W) => runner_thread W B.r B.s σ.ths.length _ B.ev (some ⟨B.pg, 0, none⟩) σ.ths.length a (hk.heap h.run (fun e => e)) hra h.n8.2
 have hdt : decide (a < (σ.ths.length : Int)) = false := decide_eq_false (by omega)
 rw [hdt] at hth
 obtain ⟨q, _, lr⟩ := obj_cells h.run
 have c0 : w.cell? ⟨B.r, 0, none⟩ = some (.pointer (some ⟨B.s, 0, none⟩)) := q 0
 have H := Lib.hid h
 have HTH := Lib.hid hth
 clear q h ha hth
 go_enter Tryz.func14, Tryz.ntmps14
 go_wp2_with fail
 refine (runner_numbers 8593 _).mono ?_
 rintro e w1 ⟨rfl, hw1⟩
 rw [hnum]
 have hk1 : Kp (fun _ => False) w w1 := by rw [hw1]; exact (Kp.refl _ _).alloc _
 have hO1 : w1.heap[w.heap.size]? = some (.cells #[.int .i32 8593, .slice (some ad) 2 c, .bool true, .int .i64 at_] 39 (0, 0)) := by rw [hw1]; exact hp_new _ _ _ rfl
 obtain ⟨r, _, lbx⟩ := obj_cells hO1
 have b0 : w1.cell? ⟨w.heap.size, 0, none⟩ = some (.int .i32 8593) := r 0
 have b1 : w1.cell? ⟨w.heap.size, 1, none⟩ = some (.slice (some ad) 2 c) := r 1
 have b2 : w1.cell? ⟨w.heap.size, 2, none⟩ = some (.bool true) := r 2
 have d0 := hk1.cell c0 (fun e => e)
 have da := hk1.cell ca (fun e => e)
 clear r hw1 c0 ca
 go_wp2_with fail
 refine (HTH.out _ (hk1)).mono ?_
 rintro e w2 ⟨rfl, hb2⟩
 have hk2 : Kp (fun _ => False) w1 w2 := Kp.nb hb2
 have hO2 := hk2.heap hO1 (fun e => e)
 have hkw2 : Kp (fun _ => False) w w2 := hk1.also hk2
 have g0 := hk2.cell b0 (fun e => e)
 have g1 := hk2.cell b1 (fun e => e)
 have e0 := hk2.cell d0 (fun e => e)
 have ea := hk2.cell da (fun e => e)
 clear b0 b1 b2 d0 da hb2 hO1
 go_wp2
 go_ret
 exact ⟨rfl, B, RB.Like.refl B, H.out.kept hkw2 (fun _ _ e => e), hkw2.mono (fun _ e => e.elim), fun k e => .inl e⟩
theorem runner_Do_pick (w : World) (B : RB) (σ : Run) (h : RunAt w B σ) (ad : Addr) (c : Nat) (t : Nat) ( at_ : Int) (ha : ArgsAt w ad [(t : Int)]) (z : Run × Int) (hta : t < σ.ths.length) (hgo : ∀ W, Kp (fun _ => False) w W → Calls Tryz.prog 47 #[.pointer (some ⟨B.r, 0, none⟩), .int .i64 t] W (DoPost W B z)) :
  Calls Tryz.prog 14 #[.pointer (some ⟨B.r, 0, none⟩), .agg #[.int .i32 8226, .slice (some ad) 1 c, .bool true, .int .i64 at_]] w (DoPost w B z) := by
 have hnum : numbersOf 8226 = 1 := rfl
 have ca : w.cell? ad = some (.int .u64 (t : Int)) := by have := ha.cells 0 _ rfl; rwa [Addr.add_zero'] at this
 have hra := ha.range (t : Int) (by simp)
 have hth := fun W (hk : Kp (fun _ => False) w W) => runner_thread W B.r B.s σ.ths.length _ B.ev (some ⟨B.pg, 0, none⟩) σ.ths.length (t : Int) (hk.heap h.run (fun e => e)) hra h.n8.2
 have hdt : decide ((t : Int) < (σ.ths.length : Int)) = true := decide_eq_true (by omega)
 rw [hdt] at hth
 have hwr : IntKind.i64.wrap (t : Int) = (t : Int) := wrap_small (t : Int) (by have := h.n8; omega)
 rw [hwr] at hth
 obtain ⟨q, _, lr⟩ := obj_cells h.run
 have c0 : w.cell? ⟨B.r, 0, none⟩ = some (.pointer (some ⟨B.s, 0, none⟩)) := q 0
 have H := Lib.hid h
 have HTH := Lib.hid hth
 clear q h ha hth
 have HGO := Lib.hid hgo
 clear hgo
 go_enter Tryz.func14, Tryz.ntmps14
 go_wp2_with fail
 refine (runner_numbers 8226 _).mono ?_
 rintro e w1 ⟨rfl, hw1⟩
 rw [hnum]
 have hk1 : Kp (fun _ => False) w w1 := by rw [hw1]; exact (Kp.refl _ _).alloc _
 have hO1 : w1.heap[w.heap.size]? = some (.cells #[.int .i32 8226, .slice (some ad) 1 c, .bool true, .int .i64 at_] 39 (0, 0)) := by rw [hw1]; exact hp_new _ _ _ rfl
 obtain ⟨r, _, lbx⟩ := obj_cells hO1
 have b0 : w1.cell? ⟨w.heap.size, 0, none⟩ = some (.int .i32 8226) := r 0
 have b1 : w1.cell? ⟨w.heap.size, 1, none⟩ = some (.slice (some ad) 1 c) := r 1
 have b2 : w1.cell? ⟨w.heap.size, 2, none⟩ = some (.bool true) := r 2
 have d0 := hk1.cell c0 (fun e => e)
 have da := hk1.cell ca (fun e => e)
 clear r hw1 c0 ca
 go_wp2_with fail
 refine (HTH.out _ (hk1)).mono ?_
 rintro e w2 ⟨rfl, hb2⟩
 have hk2 : Kp (fun _ => False) w1 w2 := Kp.nb hb2
 have hO2 := hk2.heap hO1 (fun e => e)
 have hkw2 : Kp (fun _ => False) w w2 := hk1.also hk2
 have g0 := hk2.cell b0 (fun e => e)
 have g1 := hk2.cell b1 (fun e => e)
 have e0 := hk2.cell d0 (fun e => e)
 have ea := hk2.cell da (fun e => e)
 clear b0 b1 b2 d0 da hb2 hO1
 go_wp2_with fail
 refine (HGO.out _ hkw2).mono ?_
 rintro e w3 hP
 obtain ⟨rfl, hP2⟩ := hP
 have HP := Lib.hid hP2
 clear hP2
 go_wp2
 go_ret
 exact DoPost.before hkw2 ⟨rfl, HP.out⟩
theorem runner_Do_ask_8595 (w : World) (B : RB) (σ : Run) (h : RunAt w B σ) (ad : Addr) (c : Nat) (t : Nat) ( at_ : Int) (ha : ArgsAt w ad [(t : Int)]) (z : Run × Int) (hta : t < σ.ths.length) (hgo : ∀ W, Kp (fun _ => False) w W → Calls Tryz.prog 48 #[.pointer (some ⟨B.r, 0, none⟩), .int .i64 t, .bool false, .int .u64 0] W (DoPost W B z)) :
  Calls Tryz.prog 14 #[.pointer (some ⟨B.r, 0, none⟩), .agg #[.int .i32 8595, .slice (some ad) 1 c, .bool true, .int .i64 at_]] w (DoPost w B z) := by
 have hnum : numbersOf 8595 = 1 := rfl
 have ca : w.cell? ad = some (.int .u64 (t : Int)) := by have := ha.cells 0 _ rfl; rwa [Addr.add_zero'] at this
 have hra := ha.range (t : Int) (by simp)
 have hth := fun W (hk : Kp (fun _ => False) w W) => runner_thread W B.r B.s σ.ths.length _ B.ev (some ⟨B.pg, 0, none⟩) σ.ths.length (t : Int) (hk.heap h.run (fun e => e)) hra h.n8.2
 have hdt : decide ((t : Int) < (σ.ths.length : Int)) = true := decide_eq_true (by omega)
 rw [hdt] at hth
 have hwr : IntKind.i64.wrap (t : Int) = (t : Int) := wrap_small (t : Int) (by have := h.n8; omega)
 rw [hwr] at hth
 have hcon := fun W (hk : Kp (fun _ => False) w W) hh h2 ho hi => slices_Concat W hh ad 1 c (nums .u64 [(t : Int)]) (by omega) (by simp [nums]) (by simp [nums, Value.oneCell']) (fun j u hj => hk.cell (ha.cells j u hj) (fun e => e)) h2 ho hi
 have HCON := Lib.hid hcon
 clear hcon
 obtain ⟨q, _, lr⟩ := obj_cells h.run
 have c0 : w.cell? ⟨B.r, 0, none⟩ = some (.pointer (some ⟨B.s, 0, none⟩)) := q 0
 have H := Lib.hid h
 have HTH := Lib.hid hth
 clear q h ha hth
 have HGO := Lib.hid hgo
 clear hgo
 go_enter Tryz.func14, Tryz.ntmps14
 go_wp2_with fail
 refine (runner_numbers 8595 _).mono ?_
 rintro e w1 ⟨rfl, hw1⟩
 rw [hnum]
 have hk1 : Kp (fun _ => False) w w1 := by rw [hw1]; exact (Kp.refl _ _).alloc _
 have hO1 : w1.heap[w.heap.size]? = some (.cells #[.int .i32 8595, .slice (some ad) 1 c, .bool true, .int .i64 at_] 39 (0, 0)) := by rw [hw1]; exact hp_new _ _ _ rfl
 obtain ⟨r, _, lbx⟩ := obj_cells hO1
 have b0 : w1.cell? ⟨w.heap.size, 0, none⟩ = some (.int .i32 8595) := r 0
 have b1 : w1.cell? ⟨w.heap.size, 1, none⟩ = some (.slice (some ad) 1 c) := r 1
 have b2 : w1.cell? ⟨w.heap.size, 2, none⟩ = some (.bool true) := r 2
 have d0 := hk1.cell c0 (fun e => e)
 have da := hk1.cell ca (fun e => e)
 clear r hw1 c0 ca
 go_wp2_with fail
 refine (HTH.out _ (hk1)).mono ?_
 rintro e w2 ⟨rfl, hb2⟩
 have hk2 : Kp (fun _ => False) w1 w2 := Kp.nb hb2
 have hO2 := hk2.heap hO1 (fun e => e)
 have hkw2 : Kp (fun _ => False) w w2 := hk1.also hk2
 have g0 := hk2.cell b0 (fun e => e)
 have g1 := hk2.cell b1 (fun e => e)
 have e0 := hk2.cell d0 (fun e => e)
 have ea := hk2.cell da (fun e => e)
 clear b0 b1 b2 d0 da hb2 hO1
 have hbx : ¬ B.all w.heap.size := fun e => by
  rcases e with e | ⟨u, e⟩
  ·have := H.out.fix_lt e; omega
  ·have := (H.out.fpx u _ e).2; omega
 have hall : ∀ w' : World, Kp B.all w2 w' → (w'.cell? ⟨w.heap.size, 0, none⟩ = some (.int .i32 8595) ∧ w'.cell? ⟨w.heap.size, 1, none⟩ = some (.slice (some ad) 1 c)) := fun w' hk => ⟨hk.cell g0 hbx, hk.cell g1 hbx⟩
 have HA := Lib.hid hall
 have hzero : ∀ (W : World) (ob : Obj), ((W.alloc (.cells #[.int .u64 0] 33)).alloc ob).cell? ⟨W.heap.size, 0, none⟩ = some (.int .u64 0) := fun W ob => kc _ ((obj_cells (hp_new W (.cells #[.int .u64 0] 33) _ rfl)).1 0)
 have HZ := Lib.hid hzero
 have F : Kp (fun _ => False) w2 w2 := Kp.refl _ _
 have hfl : ∀ (W W' : World), Kp (fun _ => False) W W' → Kp B.all W W' := fun _ _ h => h.mono (fun _ e => e.elim)
 have HF := Lib.hid hfl
 have g0a := fun ob => kc (W := w2) ob g0
 have g1a := fun ob => kc (W := w2) ob g1
 have g0b := fun ob1 ob2 => kc (W := w2.alloc ob1) ob2 (kc ob1 g0)
 have g1b := fun ob1 ob2 => kc (W := w2.alloc ob1) ob2 (kc ob1 g1)
 clear hall hzero hO2
 go_wp2_with fail
 go_region_with (first
   | (go_at_call 49; refine (HCON.out _ ?hkC _ w2.heap.size ?hoC ?hzC).mono ?_; (case hkC => first | exact ((hkw2.alloc _).alloc _).drew | exact (hkw2.alloc _).alloc _); (case hoC => exact (hp_new _ _ _ (by simp))); (case hzC => exact (HZ.out w2 _)); rintro e w3 ⟨g, cap, rfl, hown, hk3⟩; have hk3z : Kp (fun _ => False) w2 w3 := Kp.also ((F.alloc _).alloc _).drew hk3; have hel : w3.cell? ⟨g, 1, none⟩ = some (.int .u64 0) := row_one hown 1 _ rfl g rfl; have z0 := hk3z.cell g0 (fun e => e); have HOW := Lib.hid hown; clear hown)
   | (go_at_call 48; refine (HGO.out w3 (hkw2.also hk3z)).mono ?_; rintro e w4 hP; have hP0 := hP; obtain ⟨rfl, B4, y1, y2, y3, y4⟩ := hP; have HP := Lib.hid hP0; clear hP0 y1 y2 y3 y4))
 all_goals go_wp2
 all_goals go_ret
 all_goals exact DoPost.before (hkw2.also hk3z) HP.out
theorem runner_Do_ask_8593 (w : World) (B : RB) (σ : Run) (h : RunAt w B σ) (ad : Addr) (c : Nat) (t : Nat) (b at_ : Int) (ha : ArgsAt w ad [(t : Int), b]) (z : Run × Int) (hta : t < σ.ths.length) (hgo : ∀ W, Kp (fun _ => False) w W → Calls Tryz.prog 48 #[.pointer (some ⟨B.r, 0, none⟩), .int .i64 t, .bool true, .int .u64 b] W (DoPost W B z)) :
  Calls Tryz.prog 14 #[.pointer (some ⟨B.r, 0, none⟩), .agg #[.int .i32 8593, .slice (some ad) 2 c, .bool true, .int .i64 at_]] w (DoPost w B z) := by
 have hnum : numbersOf 8593 = 2 := rfl
 have ca : w.cell? ad = some (.int .u64 (t : Int)) := by have := ha.cells 0 _ rfl; rwa [Addr.add_zero'] at this
 have hra := ha.range (t : Int) (by simp)
 have hth := fun W (hk : Kp (fun _ => False) w W) => runner_thread W B.r B.s σ.ths.length _ B.ev (some ⟨B.pg, 0, none⟩) σ.ths.length (t : Int) (hk.heap h.run (fun e => e)) hra h.n8.2
 have hdt : decide ((t : Int) < (σ.ths.length : Int)) = true := decide_eq_true (by omega)
 rw [hdt] at hth
 have hwr : IntKind.i64.wrap (t : Int) = (t : Int) := wrap_small (t : Int) (by have := h.n8; omega)
 rw [hwr] at hth
 have hcon := fun W (hk : Kp (fun _ => False) w W) hh h2 ho hi => slices_Concat W hh ad 2 c (nums .u64 [(t : Int), b]) (by omega) (by simp [nums]) (by simp [nums, Value.oneCell']) (fun j u hj => hk.cell (ha.cells j u hj) (fun e => e)) h2 ho hi
 have HCON := Lib.hid hcon
 clear hcon
 obtain ⟨q, _, lr⟩ := obj_cells h.run
 have c0 : w.cell? ⟨B.r, 0, none⟩ = some (.pointer (some ⟨B.s, 0, none⟩)) := q 0
 have H := Lib.hid h
 have HTH := Lib.hid hth
 clear q h ha hth
 have HGO := Lib.hid hgo
 clear hgo
 go_enter Tryz.func14, Tryz.ntmps14
 go_wp2_with fail
 refine (runner_numbers 8593 _).mono ?_
 rintro e w1 ⟨rfl, hw1⟩
 rw [hnum]
 have hk1 : Kp (fun _ => False) w w1 := by rw [hw1]; exact (Kp.refl _ _).alloc _
 have hO1 : w1.heap[w.heap.size]? = some (.cells #[.int .i32 8593, .slice (some ad) 2 c, .bool true, .int .i64 at_] 39 (0, 0)) := by rw [hw1]; exact hp_new _ _ _ rfl
 obtain ⟨r, _, lbx⟩ := obj_cells hO1
 have b0 : w1.cell? ⟨w.heap.size, 0, none⟩ = some (.int .i32 8593) := r 0
 have b1 : w1.cell? ⟨w.heap.size, 1, none⟩ = some (.slice (some ad) 2 c) := r 1
 have b2 : w1.cell? ⟨w.heap.size, 2, none⟩ = some (.bool true) := r 2
 have d0 := hk1.cell c0 (fun e => e)
 have da := hk1.cell ca (fun e => e)
 clear r hw1 c0 ca
 go_wp2_with fail
 refine (HTH.out _ (hk1)).mono ?_
 rintro e w2 ⟨rfl, hb2⟩
 have hk2 : Kp (fun _ => False) w1 w2 := Kp.nb hb2
 have hO2 := hk2.heap hO1 (fun e => e)
 have hkw2 : Kp (fun _ => False) w w2 := hk1.also hk2
 have g0 := hk2.cell b0 (fun e => e)
 have g1 := hk2.cell b1 (fun e => e)
 have e0 := hk2.cell d0 (fun e => e)
 have ea := hk2.cell da (fun e => e)
 clear b0 b1 b2 d0 da hb2 hO1
 have hbx : ¬ B.all w.heap.size := fun e => by
  rcases e with e | ⟨u, e⟩
  ·have := H.out.fix_lt e; omega
  ·have := (H.out.fpx u _ e).2; omega
 have hall : ∀ w' : World, Kp B.all w2 w' → (w'.cell? ⟨w.heap.size, 0, none⟩ = some (.int .i32 8593) ∧ w'.cell? ⟨w.heap.size, 1, none⟩ = some (.slice (some ad) 2 c)) := fun w' hk => ⟨hk.cell g0 hbx, hk.cell g1 hbx⟩
 have HA := Lib.hid hall
 have hzero : ∀ (W : World) (ob : Obj), ((W.alloc (.cells #[.int .u64 0] 33)).alloc ob).cell? ⟨W.heap.size, 0, none⟩ = some (.int .u64 0) := fun W ob => kc _ ((obj_cells (hp_new W (.cells #[.int .u64 0] 33) _ rfl)).1 0)
 have HZ := Lib.hid hzero
 have F : Kp (fun _ => False) w2 w2 := Kp.refl _ _
 have hfl : ∀ (W W' : World), Kp (fun _ => False) W W' → Kp B.all W W' := fun _ _ h => h.mono (fun _ e => e.elim)
 have HF := Lib.hid hfl
 have g0a := fun ob => kc (W := w2) ob g0
 have g1a := fun ob => kc (W := w2) ob g1
 have g0b := fun ob1 ob2 => kc (W := w2.alloc ob1) ob2 (kc ob1 g0)
 have g1b := fun ob1 ob2 => kc (W := w2.alloc ob1) ob2 (kc ob1 g1)
 clear hall hzero hO2
 go_wp2_with fail
 go_region_with (first
   | (go_at_call 49; refine (HCON.out _ ?hkC _ w2.heap.size ?hoC ?hzC).mono ?_; (case hkC => first | exact ((hkw2.alloc _).alloc _).drew | exact (hkw2.alloc _).alloc _); (case hoC => exact (hp_new _ _ _ (by simp))); (case hzC => exact (HZ.out w2 _)); rintro e w3 ⟨g, cap, rfl, hown, hk3⟩; have hk3z : Kp (fun _ => False) w2 w3 := Kp.also ((F.alloc _).alloc _).drew hk3; have hel : w3.cell? ⟨g, 1, none⟩ = some (.int .u64 b) := row_one hown 1 _ rfl g rfl; have z0 := hk3z.cell g0 (fun e => e); have HOW := Lib.hid hown; clear hown)
   | (go_at_call 48; refine (HGO.out w3 (hkw2.also hk3z)).mono ?_; rintro e w4 hP; have hP0 := hP; obtain ⟨rfl, B4, y1, y2, y3, y4⟩ := hP; have HP := Lib.hid hP0; clear hP0 y1 y2 y3 y4))
 all_goals go_wp2
 all_goals go_ret
 all_goals exact DoPost.before (hkw2.also hk3z) HP.out
end Go.Proofs.YtgdoeoackhfikaaGreatDoor

namespace Go.Proofs.YtgdoeoackhfikaaGreatDoor
open Go.RowKit Go.Proofs.YtgdoeoackhfikaaGreatDoorW.PrintWords
set_option maxRecDepth 100000
set_option linter.unusedSimpArgs false
set_option linter.unusedVariables false
structure Run.Few (σ : Run) : Prop where
 picks : σ.picks < 1000000000
 evs : σ.evs.length < 1000000000
 draws : σ.src.draws.length ≤ 1000000000
def Run.Steps (σ : Run) (e : Ent) : Prop := e.op = 8226 → ∀ (x : Th) (y : OpS), σ.ths[(e.args.getD 0 0).toNat]? = some x → x.op = some y → OpSteps y σ.mem σ.src
theorem picked_post (w : World) (B : RB) (σ : Run) (h : RunAt w B σ) (hf : σ.Few) (t : Nat) (x : Th) (hx : σ.ths[t]? = some x) (hS : ∀ y, x.op = some y → OpSteps y σ.mem σ.src) :
  Calls Tryz.prog 47 #[.pointer (some ⟨B.r, 0, none⟩), .int .i64 t] w (DoPost w B (σ.picked t x)) := by
 cases hy : x.op with
 | none =>
  have e : σ.picked t x = (σ, 6) := by unfold Run.picked; rw [hy]
  rw [e]
  refine (runner_picked_idle w B σ h t x hx hy).mono ?_
  rintro e w' ⟨he, rfl⟩
  exact DoPost.same h he (Below.refl _ _)
 | some y =>
  have e : (σ.picked t x).2 = 0 := by
   unfold Run.picked
   rw [hy]
   dsimp only
   split <;> rfl
  have hst := hS y hy
  by_cases h0 : (y.step σ.mem σ.src).1.st = 0
  ·refine (runner_picked_runs w B σ h hf.picks t x hx y hy hst h0).mono ?_
   rintro e' w' ⟨he, hP⟩
   exact ⟨by rw [e]; exact he, hP⟩
  ·refine (runner_picked_ends w B σ h hf.picks hf.evs t x hx y hy hst h0).mono ?_
   rintro e' w' ⟨he, hP⟩
   exact ⟨by rw [e]; exact he, hP⟩
theorem asked_post (w : World) (B : RB) (σ : Run) (h : RunAt w B σ) (hf : σ.Few) (t : Nat) (x : Th) (hx : σ.ths[t]? = some x) (push : Bool) (v : Int) (hv : 0 ≤ v ∧ v < 18446744073709551616) :
  Calls Tryz.prog 48 #[.pointer (some ⟨B.r, 0, none⟩), .int .i64 t, .bool push, .int .u64 v] w (DoPost w B (σ.asked t x push v)) := by
 cases hy : x.op with
 | none =>
  have e : (σ.asked t x push v).2 = 0 := by unfold Run.asked; rw [hy]
  refine (runner_asked_free w B σ h hf.evs t x hx hy push v hv).mono ?_
  rintro e' w' ⟨he, hP⟩
  exact ⟨by rw [e]; exact he, hP⟩
 | some y =>
  have e : σ.asked t x push v = (σ, 5) := by unfold Run.asked; rw [hy]
  rw [e]
  refine (runner_asked_busy w B σ h t x hx y hy push v).mono ?_
  rintro e w' ⟨he, rfl⟩
  exact DoPost.same h he (Below.refl _ _)
theorem Run.Few.kept {σ : Run} (h : σ.Few) : σ.Few := h
theorem runner_Do (w : World) (B : RB) (σ : Run) (h : RunAt w B σ) (hf : σ.Few) (op : Int) (A : Option Addr) (c : Nat) (l : List Int) (hA : 0 < l.length → ∃ ad, A = some ad ∧ ArgsAt w ad l ∧ ¬ B.all ad.block) (ok : Bool) (at_ : Int) (hS : σ.Steps ⟨op, l, ok, at_⟩) :
  Calls Tryz.prog 14 #[.pointer (some ⟨B.r, 0, none⟩), .agg #[.int .i32 op, .slice A l.length c, .bool ok, .int .i64 at_]] w (DoPost w B (σ.do_ ⟨op, l, ok, at_⟩)) := by
 cases ok with
 | false =>
  have e : σ.do_ ⟨op, l, false, at_⟩ = (σ, 3) := by unfold Run.do_; exact if_pos rfl
  rw [e]
  refine (runner_Do_form w _ op A l.length c at_).mono ?_
  rintro e w' ⟨he, hb⟩
  exact DoPost.same h he hb
 | true =>
  by_cases hn : numbersOf op < 0
  ·have e1 : numbersOf op = -1 := by
    unfold numbersOf at hn ⊢
    by_cases h1 : op = 8593
    ·rw [if_pos h1] at hn; omega
    ·rw [if_neg h1] at hn ⊢
     by_cases h2 : op = 8595 ∨ op = 8226 ∨ op = 8987 ∨ op = 9858
     ·rw [if_pos h2] at hn; omega
     ·rw [if_neg h2]
   have e : σ.do_ ⟨op, l, true, at_⟩ = (σ, 7) := by unfold Run.do_; rw [if_neg (by simp), if_pos hn]
   rw [e]
   refine (runner_Do_op w _ op A l.length c at_ e1).mono ?_
   rintro e w' ⟨he, hb⟩
   exact DoPost.same h he hb
  by_cases hl : (l.length : Int) ≠ numbersOf op
  ·have e : σ.do_ ⟨op, l, true, at_⟩ = (σ, 1) := by unfold Run.do_; rw [if_neg (by simp), if_neg hn, if_pos hl]
   rw [e]
   refine (runner_Do_arg w _ op A l.length c at_ (by omega) hl).mono ?_
   rintro e w' ⟨he, hb⟩
   exact DoPost.same h he hb
  have hl' : (l.length : Int) = numbersOf op := by omega
  have hop : op = 8593 ∨ op = 8595 ∨ op = 8226 ∨ op = 8987 ∨ op = 9858 := by
   unfold numbersOf at hn
   split at hn
   ·left; assumption
   ·split at hn
    ·right; assumption
    ·omega
  have e0 : σ.do_ ⟨op, l, true, at_⟩ = (if op = 8987 then ({ σ with src := σ.src.tick (l.getD 0 0) }, 0)
   else if op = 9858 then (if l.getD 0 0 < 64 then ({ σ with src := { σ.src with draws := σ.src.draws ++ [l.getD 0 0] } }, 0) else (σ, 1))
   else match σ.ths[(l.getD 0 0).toNat]? with
    | none => (σ, 4)
    | some x => if op = 8226 then σ.picked (l.getD 0 0).toNat x else σ.asked (l.getD 0 0).toNat x (decide (op = 8593)) (l.getD 1 0)) := by
   unfold Run.do_
   rw [if_neg (by simp), if_neg hn, if_neg hl]
   rfl
  rw [e0]
  clear e0 hl hn
  obtain ⟨ad, rfl, ha, hap⟩ := hA (by rcases hop with rfl | rfl | rfl | rfl | rfl <;> (simp [numbersOf] at hl'; omega))
  have hone : ∀ (o : Int), numbersOf o = 1 → (l.length : Int) = numbersOf o → ∃ a, l = [a] := fun o h1 h2 => by
   rw [h1] at h2
   match l, h2 with
   | [a], _ => exact ⟨a, rfl⟩
   | [], h2 => simp at h2
   | _ :: _ :: _, h2 => simp at h2; omega
  have hth : ∀ a : Int, 0 ≤ a → ¬ a < (σ.ths.length : Int) → σ.ths[a.toNat]? = none := fun a h0 h1 => List.getElem?_eq_none (by omega)
  have hth2 : ∀ a : Int, 0 ≤ a → a < (σ.ths.length : Int) → ∃ x, σ.ths[a.toNat]? = some x := fun a h0 h1 => ⟨_, List.getElem?_eq_getElem (by omega)⟩
  rcases hop with rfl | rfl | rfl | rfl | rfl
  ·obtain ⟨a, b, rfl⟩ : ∃ a b, l = [a, b] := by
    have h2 : (l.length : Int) = 2 := hl'
    match l, h2 with
    | [a, b], _ => exact ⟨a, b, rfl⟩
    | [], h2 => simp at h2
    | [_], h2 => simp at h2
    | _ :: _ :: _ :: _, h2 => simp at h2; omega
   have hra := ha.range a (by simp)
   have hrb := ha.range b (by simp)
   show Calls _ _ _ w (DoPost w B (if (8593 : Int) = 8987 then _ else if (8593 : Int) = 9858 then _ else match σ.ths[a.toNat]? with | none => (σ, 4) | some x => if (8593 : Int) = 8226 then σ.picked a.toNat x else σ.asked a.toNat x (decide ((8593 : Int) = 8593)) b))
   rw [if_neg (by decide), if_neg (by decide)]
   by_cases hn : a < (σ.ths.length : Int)
   ·obtain ⟨x, hx⟩ := hth2 a hra.1 hn
    rw [hx]
    show Calls _ _ _ w (DoPost w B (if (8593 : Int) = 8226 then σ.picked a.toNat x else σ.asked a.toNat x true b))
    rw [if_neg (by decide)]
    obtain ⟨t, rfl⟩ : ∃ t : Nat, a = t := ⟨a.toNat, by omega⟩
    exact runner_Do_ask_8593 w B σ h ad c t b at_ ha _ (by omega) (fun W hk => asked_post W B σ (h.kept hk (fun _ _ e => e)) hf _ x hx true b hrb)
   ·rw [hth a hra.1 hn]
    exact runner_Do_none_8593 w B σ h ad c a b at_ ha (by omega)
  ·obtain ⟨a, rfl⟩ := hone _ rfl hl'
   have hra := ha.range a (by simp)
   show Calls _ _ _ w (DoPost w B (if (8595 : Int) = 8987 then _ else if (8595 : Int) = 9858 then _ else match σ.ths[a.toNat]? with | none => (σ, 4) | some x => if (8595 : Int) = 8226 then σ.picked a.toNat x else σ.asked a.toNat x (decide ((8595 : Int) = 8593)) 0))
   rw [if_neg (by decide), if_neg (by decide)]
   by_cases hn : a < (σ.ths.length : Int)
   ·obtain ⟨x, hx⟩ := hth2 a hra.1 hn
    rw [hx]
    show Calls _ _ _ w (DoPost w B (if (8595 : Int) = 8226 then σ.picked a.toNat x else σ.asked a.toNat x false 0))
    rw [if_neg (by decide)]
    obtain ⟨t, rfl⟩ : ∃ t : Nat, a = t := ⟨a.toNat, by omega⟩
    exact runner_Do_ask_8595 w B σ h ad c t at_ ha _ (by omega) (fun W hk => asked_post W B σ (h.kept hk (fun _ _ e => e)) hf _ x hx false 0 (by omega))
   ·rw [hth a hra.1 hn]
    exact runner_Do_none_8595 w B σ h ad c a at_ ha (by omega)
  ·obtain ⟨a, rfl⟩ := hone _ rfl hl'
   have hra := ha.range a (by simp)
   show Calls _ _ _ w (DoPost w B (if (8226 : Int) = 8987 then _ else if (8226 : Int) = 9858 then _ else match σ.ths[a.toNat]? with | none => (σ, 4) | some x => if (8226 : Int) = 8226 then σ.picked a.toNat x else _))
   rw [if_neg (by decide), if_neg (by decide)]
   by_cases hn : a < (σ.ths.length : Int)
   ·obtain ⟨x, hx⟩ := hth2 a hra.1 hn
    rw [hx]
    show Calls _ _ _ w (DoPost w B (if (8226 : Int) = 8226 then σ.picked a.toNat x else _))
    rw [if_pos rfl]
    obtain ⟨t, rfl⟩ : ∃ t : Nat, a = t := ⟨a.toNat, by omega⟩
    exact runner_Do_pick w B σ h ad c t at_ ha _ (by omega) (fun W hk => picked_post W B σ (h.kept hk (fun _ _ e => e)) hf _ x hx (fun y hy => hS rfl x y hx hy))
   ·rw [hth a hra.1 hn]
    exact runner_Do_none_8226 w B σ h ad c a at_ ha (by omega)
  ·obtain ⟨a, rfl⟩ := hone _ rfl hl'
   show Calls _ _ _ w (DoPost w B (if (8987 : Int) = 8987 then ({ σ with src := σ.src.tick a }, 0) else _))
   rw [if_pos rfl]
   exact runner_Do_clock w B σ h ad c a at_ ha hap
  ·obtain ⟨a, rfl⟩ := hone _ rfl hl'
   show Calls _ _ _ w (DoPost w B (if (9858 : Int) = 8987 then _ else if (9858 : Int) = 9858 then (if a < 64 then ({ σ with src := { σ.src with draws := σ.src.draws ++ [a] } }, 0) else (σ, 1)) else _))
   rw [if_neg (by decide), if_pos rfl]
   by_cases hd : a < 64
   ·rw [if_pos hd]
    exact runner_Do_dice w B σ h ad c a at_ ha hap hf.draws hd
   ·rw [if_neg hd]
    exact runner_Do_dice_no w B σ h ad c a at_ ha hap hd
end Go.Proofs.YtgdoeoackhfikaaGreatDoor

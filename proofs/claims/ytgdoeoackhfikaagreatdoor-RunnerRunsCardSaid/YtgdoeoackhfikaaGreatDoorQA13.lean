/-
  Parts of the proof of runnerSkips_holds: RunStep, RunEnd, RunPick.
-/
import Derived.Test.YtgdoeoackhfikaaGreatDoorQA12
import Derived.Test.YtgdoeoackhfikaaGreatDoorQA9
import Derived.Deep.RegionLaw
namespace Go.Proofs.YtgdoeoackhfikaaGreatDoor
open Go.RowKit Go.Proofs.YtgdoeoackhfikaaGreatDoorW.PrintWords
set_option maxRecDepth 100000
set_option linter.unusedSimpArgs false
set_option linter.unusedVariables false
theorem next_c (y : OpS) (m : MemS) (r : SrcS) : (y.next m r).1.c = y.c ∧ (y.next m r).1.push = y.push := by
 have hco : ∀ z : OpS, z.contended.1.c = z.c ∧ z.contended.1.push = z.push := fun z => by
  unfold OpS.contended
  dsimp only
  split
  ·exact ⟨rfl, rfl⟩
  ·split
   ·exact ⟨rfl, rfl⟩
   ·split
    ·exact ⟨rfl, rfl⟩
    ·exact ⟨rfl, rfl⟩
 have htr : ∀ (z : OpS) (s i : Int), (z.tried s i).1.c = z.c ∧ (z.tried s i).1.push = z.push := fun z s i => by
  unfold OpS.tried
  split
  ·exact hco z
  ·repeat' split
   all_goals exact ⟨rfl, rfl⟩
 have hvi : ∀ (z : OpS) (s i : Int), (z.visited s i).1.c = z.c ∧ (z.visited s i).1.push = z.push := fun z s i => by
  unfold OpS.visited
  repeat' split
  all_goals exact ⟨rfl, rfl⟩
 unfold OpS.next
 split
 ·simp only; split <;> exact ⟨rfl, rfl⟩
 ·simp only; split <;> exact ⟨rfl, rfl⟩
 ·exact htr _ _ _
 ·exact htr _ _ _
 ·exact hvi _ _ _
 ·split <;> exact ⟨rfl, rfl⟩
 ·split <;> exact ⟨rfl, rfl⟩
theorem step_c (y : OpS) (m : MemS) (r : SrcS) : (y.step m r).1.c = y.c := by
 unfold OpS.step
 split
 ·exact (next_c y m r).1
 ·rfl
def OpSteps (y : OpS) (m : MemS) (r : SrcS) : Prop := ∀ (w : World) (b : MB) (s : Nat) (dv : Value) (F : Nat → Prop) (o : Nat), MemAt w b m → SrcAt w s dv r → Apart w b F → SApart b F s dv → OpAt w F o y →
 Calls Tryz.prog 227 #[.pointer (some ⟨o, 0, none⟩), .pointer (some ⟨b.m, 0, none⟩), .pointer (some ⟨s, 0, none⟩)] w fun e w' => e = .returned (.tuple #[.int .i64 (y.step m r).1.st, .int .u64 (y.step m r).1.told]) ∧ OPost F w b s dv (y.step m r).2.1 (y.step m r).2.2 w' (fun W F' => OpAt W F' o (y.step m r).1)
theorem RunAt.counted {w : World} {B : RB} {σ : Run} (h : RunAt w B σ) : RunAt (w.setCell ⟨B.s, 3, none⟩ (.int .i64 (σ.picks + 1))) B { σ with picks := σ.picks + 1 } := by
 have K : Kp (fun k => k = B.s) w (w.setCell ⟨B.s, 3, none⟩ (.int .i64 (σ.picks + 1))) := Kp.st (S := fun k => k = B.s) (Kp.refl _ _) (.inl rfl) 3 _
 have hn : ∀ k u, Ty w k u → u ≠ 136 → ¬ k = B.s := fun k u hT hu e => hT.ne (Ty.of h.sch) hu e
 refine ⟨h.n8, h.ls, h.lo, K.heap h.run (hn _ _ (Ty.of h.run) (by decide)), hp_same _ B.s 3 _ h.sch, h.mem.kept K (fun k hk => ?_), h.src.kept K (fun k hk => ?_), ⟨h.book.1, K.heap h.book.2 (hn _ _ (Ty.of h.book.2) (by decide))⟩,
  K.heap h.tgc (hn _ _ (Ty.of h.tgc) (by decide)), K.heap h.ogc (hn _ _ (Ty.of h.ogc) (by decide)), K.heap h.pgc (hn _ _ (Ty.of h.pgc) (by decide)), K.heap h.hgc (hn _ _ (Ty.of h.hgc) (by decide)), K.row h.evr (fun k hk => hn _ _ (Ty.row h.evr hk) (by decide)), h.right, h.rwt, by have := h.pk; show 0 ≤ σ.picks + 1; omega, fun u z hz => ?_, fun u k hk => ⟨(h.fpx u k hk).1, Nat.lt_of_lt_of_le (h.fpx u k hk).2 K.size⟩, h.fpd⟩
 ·obtain ⟨u, hT, hu⟩ := mem_ty h.mem hk
  rcases hu with rfl | rfl | rfl <;> exact hn _ _ hT (by decide)
 ·obtain ⟨u, hT, hu⟩ := src_ty h.src hk
  rcases hu with rfl | rfl <;> exact hn _ _ hT (by decide)
 ·refine (h.ths u z hz).move rfl rfl rfl (fun k sv' h1 h2 => ?_) (fun k hk => ?_)
  ·have hT := h.sh_ty h1 h2
   exact K.block k (by obtain ⟨_, _, hh⟩ := hT; exact lt_of_heap hh) (hn _ _ hT (by decide))
  ·exact K.block k (h.fpx u k hk).2 (fun e => (h.fpx u k hk).1 (.inr (.inl e)))
theorem RunAt.aside {w : World} {B : RB} {σ : Run} (h : RunAt w B σ) (t k : Nat) (u : TypeId) (hf : B.fix k) (hT : Ty w k u) (e1 : u ≠ 147) (e2 : u ≠ 33) (e3 : u ≠ 340) (e4 : u ≠ 138) (e5 : u ≠ 3) : ¬ (B.fp t k ∨ B.mb.has k ∨ k = B.q ∨ B.dv.ownBlock = some k) := fun hk => by
 rcases hk with hk | hk | hk
 ·exact (h.fpx t k hk).1 hf
 ·obtain ⟨v, hv, hu⟩ := mem_ty h.mem hk
  rcases hu with rfl | rfl | rfl
  ·exact hT.ne hv e1 rfl
  ·exact hT.ne hv e2 rfl
  ·exact hT.ne hv e3 rfl
 ·obtain ⟨v, hv, hu⟩ := src_ty h.src hk
  rcases hu with rfl | rfl
  ·exact hT.ne hv e4 rfl
  ·exact hT.ne hv e5 rfl
theorem RunAt.fix_lt {w : World} {B : RB} {σ : Run} (h : RunAt w B σ) {k : Nat} (hk : B.fix k) : k < w.heap.size := by
 rcases hk with e | e | e | e | e | e | e | e | e | e | e | ⟨sv', e, e'⟩
 ·have := lt_of_heap h.run; have e : k = B.r := e; omega
 ·have := lt_of_heap h.sch; have e : k = B.s := e; omega
 ·have := lt_of_heap h.src.own; have e : k = B.q := e; omega
 ·have := lt_of_heap h.book.2; have e : k = B.k := e; omega
 ·exact h.mem.lt k e
 ·exact h.src.lt k (.inr e)
 ·have := lt_of_heap h.tgc; have e : k = B.tg := e; omega
 ·have := lt_of_heap h.pgc; have e : k = B.pg := e; omega
 ·have := lt_of_heap h.hgc; have e : k = B.hg := e; omega
 ·have := lt_of_heap h.ogc; have e : k = B.og := e; omega
 ·exact (h.evr.lt k e).2
 ·obtain ⟨u', hu'⟩ := List.getElem?_of_mem e
  obtain ⟨_, _, hh⟩ := h.sh_ty hu' e'
  exact lt_of_heap hh
theorem RunAt.stepped {w W : World} {B : RB} {σ : Run} (h : RunAt w B σ) {t : Nat} {x : Th} (hx : σ.ths[t]? = some x) {y y' : OpS} (hy : x.op = some y) (hc : y'.c = y.c) {o : Nat} (ho : B.os[t]? = some (some o)) {m' : MemS} {r' : SrcS}
  (hp : OPost (B.fp t) w B.mb B.q B.dv m' r' W (fun W F' => OpAt W F' o y')) :
  ∃ B', B.Like B' ∧ RunAt W B' { σ with mem := m', src := r', ths := σ.ths.set t { x with op := some y' } } ∧ Kp B.all w W ∧ (∀ k, B'.all k → B.all k ∨ w.heap.size ≤ k) ∧ B'.os = B.os ∧ B'.tg = B.tg := by
 obtain ⟨nv', dv', hm, hs, hn, hd, K, hop⟩ := hp
 have ht : t < σ.ths.length := (List.getElem?_eq_some_iff.1 hx).1
 have hlen : (σ.ths.set t { x with op := some y' }).length = σ.ths.length := List.length_set
 have sz := K.size
 obtain ⟨sv, hsv, hsh, hpr, hfew, hox⟩ := h.ths t x hx
 rw [hy] at hox
 obtain ⟨o', ho', _, hyc⟩ := hox
 have hA := h.aside t
 have f0 : B.fix B.r := .inl rfl
 have f1 : B.fix B.s := .inr (.inl rfl)
 have f3 : B.fix B.k := .inr (.inr (.inr (.inl rfl)))
 have f6 : B.fix B.tg := .inr (.inr (.inr (.inr (.inr (.inr (.inl rfl))))))
 have f7 : B.fix B.pg := .inr (.inr (.inr (.inr (.inr (.inr (.inr (.inl rfl)))))))
 have f8 : B.fix B.hg := .inr (.inr (.inr (.inr (.inr (.inr (.inr (.inr (.inl rfl))))))))
 have f9 : B.fix B.og := .inr (.inr (.inr (.inr (.inr (.inr (.inr (.inr (.inr (.inl rfl)))))))))
 have fe : ∀ k, B.ev.ownBlock = some k → B.fix k := fun k e => .inr (.inr (.inr (.inr (.inr (.inr (.inr (.inr (.inr (.inr (.inl e))))))))))
 have fs : ∀ (u k : Nat) sv', B.sh[u]? = some sv' → sv'.ownBlock = some k → B.fix k := fun u k sv' e e' => .inr (.inr (.inr (.inr (.inr (.inr (.inr (.inr (.inr (.inr (.inr ⟨sv', List.mem_of_getElem? e, e'⟩))))))))))
 have fixO : ∀ k, k < w.heap.size → RB.fix { B with mb := { B.mb with nv := nv' }, dv := dv', fp := fun u k => if u = t then grownO (B.fp t) w W nv' dv' k else B.fp u k } k → B.fix k := fun k hl e => by
  rcases e with e | e | e | e | e | e | e | e | e | e | e | e
  ·exact .inl e
  ·exact .inr (.inl e)
  ·exact .inr (.inr (.inl e))
  ·exact .inr (.inr (.inr (.inl e)))
  ·rcases e with e | e | e
   ·exact .inr (.inr (.inr (.inr (.inl (.inl e)))))
   ·exact .inr (.inr (.inr (.inr (.inl (.inr (.inl e))))))
   ·rcases hn k e with e | e
    ·exact .inr (.inr (.inr (.inr (.inl (.inr (.inr e))))))
    ·omega
  ·rcases hd k e with e | e
   ·exact .inr (.inr (.inr (.inr (.inr (.inl e)))))
   ·omega
  ·exact .inr (.inr (.inr (.inr (.inr (.inr (.inl e))))))
  ·exact .inr (.inr (.inr (.inr (.inr (.inr (.inr (.inl e)))))))
  ·exact .inr (.inr (.inr (.inr (.inr (.inr (.inr (.inr (.inl e))))))))
  ·exact .inr (.inr (.inr (.inr (.inr (.inr (.inr (.inr (.inr (.inl e)))))))))
  ·exact .inr (.inr (.inr (.inr (.inr (.inr (.inr (.inr (.inr (.inr (.inl e))))))))))
  ·exact .inr (.inr (.inr (.inr (.inr (.inr (.inr (.inr (.inr (.inr (.inr e))))))))))
 refine ⟨{ B with mb := { B.mb with nv := nv' }, dv := dv', fp := fun u k => if u = t then grownO (B.fp t) w W nv' dv' k else B.fp u k }, ⟨rfl, rfl, rfl, rfl, rfl⟩, ?_, ?_, ?_, rfl, rfl⟩
 ·refine ⟨by show 1 ≤ (σ.ths.set t _).length ∧ (σ.ths.set t _).length ≤ 8; rw [hlen]; exact h.n8, by show B.sh.length = (σ.ths.set t _).length; rw [hlen]; exact h.ls, by show B.os.length = (σ.ths.set t _).length; rw [hlen]; exact h.lo, ?_, ?_, hm, hs, ?_, ?_, ?_, ?_, ?_, ?_, h.right, h.rwt, h.pk, fun u z hz => ?_, fun u k hk => ?_, fun u u' k hk hk' => ?_⟩
  ·show RunnerC W B.r B.s _ (.slice _ (σ.ths.set t _).length (σ.ths.set t _).length) _
   rw [hlen]
   exact K.heap h.run (hA _ _ f0 (Ty.of h.run) (by decide) (by decide) (by decide) (by decide) (by decide))
  ·show SchedC W B.s B.mb.m B.q B.tg (σ.ths.set t _).length σ.picks
   rw [hlen]
   exact K.heap h.sch (hA _ _ f1 (Ty.of h.sch) (by decide) (by decide) (by decide) (by decide) (by decide))
  ·show StacksC W B.k σ.c.cs (.slice _ (σ.ths.set t _).length (σ.ths.set t _).length) B.og (σ.ths.set t _).length
   rw [hlen]
   exact ⟨h.book.1, K.heap h.book.2 (hA _ _ f3 (Ty.of h.book.2) (by decide) (by decide) (by decide) (by decide) (by decide))⟩
  ·exact K.heap h.tgc (hA _ _ f6 (Ty.of h.tgc) (by decide) (by decide) (by decide) (by decide) (by decide))
  ·exact K.heap h.ogc (hA _ _ f9 (Ty.of h.ogc) (by decide) (by decide) (by decide) (by decide) (by decide))
  ·show W.heap[B.pg]? = some (.cells ((σ.ths.set t { x with op := some y' }).map (fun x => Value.bool x.push)).toArray 4 (0, 0))
   rw [← map_set]
   have e : (σ.ths.map (fun x => Value.bool x.push)).toArray.setIfInBounds t (.bool x.push) = (σ.ths.map (fun x => Value.bool x.push)).toArray := by
    apply Array.ext_getElem?
    intro j
    rw [Array.getElem?_setIfInBounds]
    split
    ·rename_i e
     subst e
     simp [hx]
     exact ht
    ·rfl
   have e' : (Value.bool ({ x with op := some y' } : Th).push) = .bool x.push := rfl
   rw [e', e]
   exact K.heap h.pgc (hA _ _ f7 (Ty.of h.pgc) (by decide) (by decide) (by decide) (by decide) (by decide))
  ·show W.heap[B.hg]? = some (.cells (thRow B.sh (σ.ths.set t _)).toArray 85 (0, 0))
   rw [thRow_same B.sh σ.ths _ (fun u => by
    by_cases hu : u = t
    ·subst hu; rw [List.getElem?_set_self ht, hx]; rfl
    ·rw [List.getElem?_set_ne (fun e => hu e.symm)])]
   exact K.heap h.hgc (hA _ _ f8 (Ty.of h.hgc) (by decide) (by decide) (by decide) (by decide) (by decide))
  ·exact K.row h.evr (fun k hk => hA _ _ (fe k hk) (Ty.row h.evr hk) (by decide) (by decide) (by decide) (by decide) (by decide))
  ·by_cases hu : u = t
   ·subst hu
    have hz2 : (σ.ths.set u { x with op := some y' })[u]? = some z := hz
    rw [List.getElem?_set_self ht] at hz2
    injection hz2 with hz2
    subst hz2
    refine ⟨sv, hsv, ⟨row_step hsh.row fun k hv => ?_, fun _ _ => trivial, hsh.range⟩, hpr, hfew, o, ho, ?_, hc.trans hyc⟩
    ·exact K.block k (hsh.row.lt k hv).2 (hA _ _ (fs _ _ _ hsv hv) (Ty.row hsh.row hv) (by decide) (by decide) (by decide) (by decide) (by decide))
    ·show OpAt W (fun k => if u = u then grownO (B.fp u) w W nv' dv' k else B.fp u k) o y'
     exact hop.kept (fun k ob hk hh => hh) (fun k hk => by rw [if_pos rfl]; exact hk)
   ·have hz2 : (σ.ths.set t { x with op := some y' })[u]? = some z := hz
    rw [List.getElem?_set_ne (fun e => hu e.symm)] at hz2
    refine (h.ths u z hz2).move rfl rfl ?_ (fun k sv' h1 h2 => ?_) (fun k hk => ?_)
    ·funext k
     show (if u = t then _ else B.fp u k) = B.fp u k
     rw [if_neg hu]
    ·have hT := h.sh_ty h1 h2
     exact K.block k (by obtain ⟨_, _, hh⟩ := hT; exact lt_of_heap hh) (hA _ _ (fs _ _ _ h1 h2) hT (by decide) (by decide) (by decide) (by decide) (by decide))
    ·refine K.block k (h.fpx u k hk).2 (fun e => ?_)
     rcases e with e | e | e | e
     ·exact hu (h.fpd u t k hk e)
     ·exact (h.fpx u k hk).1 (.inr (.inr (.inr (.inr (.inl e)))))
     ·exact (h.fpx u k hk).1 (.inr (.inr (.inl e)))
     ·exact (h.fpx u k hk).1 (.inr (.inr (.inr (.inr (.inr (.inl e))))))
  ·have hk : (if u = t then grownO (B.fp t) w W nv' dv' k else B.fp u k) := hk
   split at hk
   ·rcases hk with hk | ⟨k1, k2, k3, k4⟩
    ·have hf := h.fpx t k hk
     exact ⟨fun e => hf.1 (fixO k hf.2 e), by omega⟩
    ·refine ⟨fun e => ?_, k2⟩
     rcases e with e | e | e | e | e | e | e | e | e | e | e | ⟨sv', e, e'⟩
     ·have := h.fix_lt f0; have e : k = B.r := e; omega
     ·have := h.fix_lt f1; have e : k = B.s := e; omega
     ·have := lt_of_heap h.src.own; have e : k = B.q := e; omega
     ·have := h.fix_lt f3; have e : k = B.k := e; omega
     ·rcases e with e | e | e
      ·have := h.mem.ltm; have e : k = B.mb.m := e; omega
      ·have := h.mem.ltg; have e : k = B.mb.g := e; omega
      ·exact k3 e
     ·exact k4 e
     ·have := h.fix_lt f6; have e : k = B.tg := e; omega
     ·have := h.fix_lt f7; have e : k = B.pg := e; omega
     ·have := h.fix_lt f8; have e : k = B.hg := e; omega
     ·have := h.fix_lt f9; have e : k = B.og := e; omega
     ·have := h.fix_lt (fe k e); omega
     ·obtain ⟨u', hu'⟩ := List.getElem?_of_mem e
      have := h.fix_lt (fs _ _ _ hu' e')
      omega
   ·have hf := h.fpx u k hk
    exact ⟨fun e => hf.1 (fixO k hf.2 e), by omega⟩
  ·have hk : (if u = t then grownO (B.fp t) w W nv' dv' k else B.fp u k) := hk
   have hk' : (if u' = t then grownO (B.fp t) w W nv' dv' k else B.fp u' k) := hk'
   split at hk
   ·split at hk'
    ·omega
    ·rcases hk with hk | ⟨k1, _⟩
     ·have := h.fpd t u' k hk hk'; omega
     ·have := (h.fpx u' k hk').2; omega
   ·split at hk'
    ·rcases hk' with hk' | ⟨k1, _⟩
     ·have := h.fpd u t k hk hk'; omega
     ·have := (h.fpx u k hk).2; omega
    ·exact h.fpd u u' k hk hk'
 ·refine K.mono (fun k e => ?_)
  rcases e with e | e | e | e
  ·exact .inr ⟨t, e⟩
  ·exact .inl (.inr (.inr (.inr (.inr (.inl e)))))
  ·exact .inl (.inr (.inr (.inl e)))
  ·exact .inl (.inr (.inr (.inr (.inr (.inr (.inl e))))))
 ·intro k hk
  by_cases hl : w.heap.size ≤ k
  ·exact .inr hl
  refine .inl ?_
  rcases hk with e | ⟨u, e⟩
  ·exact .inl (fixO k (by omega) e)
  ·have e : (if u = t then grownO (B.fp t) w W nv' dv' k else B.fp u k) := e
   split at e
   ·rcases e with e | ⟨k1, _⟩
    ·exact .inr ⟨t, e⟩
    ·omega
   ·exact .inr ⟨u, e⟩
end Go.Proofs.YtgdoeoackhfikaaGreatDoor

namespace Go.Proofs.YtgdoeoackhfikaaGreatDoor
open Go.RowKit Go.Proofs.YtgdoeoackhfikaaGreatDoorW.PrintWords
set_option maxRecDepth 100000
set_option maxHeartbeats 4000000
set_option linter.unusedSimpArgs false
set_option linter.unusedVariables false
attribute [local go_sem] hs_other hs_alloc hs_falloc
attribute [local go_sem ↓] Go.wp_at_zero Go.wp_at_succ
theorem thRow_set {sh : List Value} {ths : List Th} {t : Nat} {sv : Value} {x : Th} (h1 : t < sh.length) (h2 : t < ths.length) : (((thRow sh ths).set (t * 3) sv).set (t * 3 + 1) (.int .i64 x.pol.range)).set (t * 3 + 2) (.int .i64 x.pol.exp) = thRow (sh.set t sv) (ths.set t x) := by
 unfold thRow
 induction sh generalizing ths t with
 | nil => simp at h1
 | cons a sh ih =>
  cases ths with
  | nil => simp at h2
  | cons y ths =>
   cases t with
   | zero => simp [thV]
   | succ t =>
    simp at h1 h2
    have := ih h1 h2
    have hl : (thV a y.pol).length = 3 := rfl
    have f1 : (t + 1) * 3 - 3 = t * 3 := by omega
    have f2 : (t + 1) * 3 + 1 - 3 = t * 3 + 1 := by omega
    have f3 : (t + 1) * 3 + 2 - 3 = t * 3 + 2 := by omega
    simp only [List.zipWith_cons_cons, List.flatten_cons, List.set_cons_succ]
    rw [List.set_append_right _ _ (by rw [hl]; omega), List.set_append_right _ _ (by rw [hl]; omega), List.set_append_right _ _ (by rw [hl]; omega), hl, f1, f2, f3, this]
theorem ended_done {w w3 wa W5 W6 W7 W8 : World} {B : RB} {σ : Run} (h : RunAt w B σ) {t : Nat} {x : Th} (hx : σ.ths[t]? = some x) {y : OpS} (hy : x.op = some y) {v st : Int}
  (hw3 : w3 = w.setCell ⟨B.tg, t, none⟩ .nilIface) (hka : Kp (fun _ => False) w3 wa)
  {g' cap' : Nat} (hgrow : wa.grownBy W5 B.ev.ownBlock) (hown : W5.ownsRow 0 64 5 (.slice (some ⟨g', 0, none⟩) (σ.evs.length + 1) cap') (σ.evs.length + 1) (σ.evs.flatMap evV ++ evV ⟨t, true, x.push, v, st⟩))
  (hat : B.ev.ownBlock = some g' ∨ g' = wa.heap.size) (hlt : g' < W5.heap.size) (hw6 : W6 = W5.setCell ⟨B.r, 3, none⟩ (.slice (some ⟨g', 0, none⟩) (σ.evs.length + 1) cap'))
  (hk7 : Kp (fun _ => False) W6 W7) {A' : Option Addr} {c' : Nat} (hsh7 : ShelfAt W7 (fun k => W6.heap.size ≤ k ∧ k < W7.heap.size) (.slice A' y.shelf.length c') y.shelf)
  (hw8 : W8 = (((W7.setCell ⟨B.hg, t * 3, none⟩ (.slice A' y.shelf.length c')).setCell ⟨B.hg, t * 3 + 1, none⟩ (.int .i64 y.pol.range)).setCell ⟨B.hg, t * 3 + 2, none⟩ (.int .i64 y.pol.exp)).setCell ⟨B.og, t, none⟩ (.pointer none)) :
  ∃ B', B.Like B' ∧ RunAt W8 B' { σ with ths := σ.ths.set t { x with shelf := y.shelf, pol := y.pol, op := none }, evs := σ.evs ++ [⟨t, true, x.push, v, st⟩] } ∧ Kp B.all w W8 ∧ (∀ k, B'.all k → B.all k ∨ w.heap.size ≤ k) := by
 have hS : ∀ k, (k = B.og ∨ k = B.tg ∨ k = B.hg ∨ k = B.r ∨ B.ev.ownBlock = some k) → ∃ u, Ty w k u ∧ (u = 65 ∨ u = 149 ∨ u = 85 ∨ u = 126 ∨ u = 64) := fun k hk => by
  rcases hk with rfl | rfl | rfl | rfl | hk
  ·exact ⟨_, Ty.of h.ogc, .inl rfl⟩
  ·exact ⟨_, Ty.of h.tgc, .inr (.inl rfl)⟩
  ·exact ⟨_, Ty.of h.hgc, .inr (.inr (.inl rfl))⟩
  ·exact ⟨_, Ty.of h.run, .inr (.inr (.inr (.inl rfl)))⟩
  ·exact ⟨_, Ty.row h.evr hk, .inr (.inr (.inr (.inr rfl)))⟩
 have hnS : ∀ k u, Ty w k u → u ≠ 65 → u ≠ 149 → u ≠ 85 → u ≠ 126 → u ≠ 64 → ¬ (k = B.og ∨ k = B.tg ∨ k = B.hg ∨ k = B.r ∨ B.ev.ownBlock = some k) := fun k u hT e1 e2 e3 e4 e5 hk => by
  obtain ⟨v, hv, hu⟩ := hS k hk
  rcases hu with rfl | rfl | rfl | rfl | rfl
  ·exact hT.ne hv e1 rfl
  ·exact hT.ne hv e2 rfl
  ·exact hT.ne hv e3 rfl
  ·exact hT.ne hv e4 rfl
  ·exact hT.ne hv e5 rfl
 have hfix : ∀ k, (k = B.og ∨ k = B.tg ∨ k = B.hg ∨ k = B.r ∨ B.ev.ownBlock = some k) → B.fix k := fun k hk => by
  rcases hk with hk | hk | hk | hk | hk
  ·exact .inr (.inr (.inr (.inr (.inr (.inr (.inr (.inr (.inr (.inl hk)))))))))
  ·exact .inr (.inr (.inr (.inr (.inr (.inr (.inl hk))))))
  ·exact .inr (.inr (.inr (.inr (.inr (.inr (.inr (.inr (.inl hk))))))))
  ·exact .inl hk
  ·exact .inr (.inr (.inr (.inr (.inr (.inr (.inr (.inr (.inr (.inr (.inl hk))))))))))
 have lold : ∀ k, (k = B.og ∨ k = B.tg ∨ k = B.hg ∨ k = B.r ∨ B.ev.ownBlock = some k) → k < w.heap.size := fun k hk => h.fix_lt (hfix k hk)
 have s3 : w3.heap.size = w.heap.size := by rw [hw3]; simp [World.setCell]
 have sa := hka.size
 have s5 := hgrow.size
 have s6 : W6.heap.size = W5.heap.size := by rw [hw6]; simp [World.setCell]
 have s7 := hk7.size
 have s8 : W8.heap.size = W7.heap.size := by rw [hw8]; simp [World.setCell]
 have K78 : Kp (fun k => k = B.hg ∨ k = B.og) W7 W8 := by
  rw [hw8]
  exact Kp.st (S := fun k => k = B.hg ∨ k = B.og) (Kp.st (S := fun k => k = B.hg ∨ k = B.og) (Kp.st (S := fun k => k = B.hg ∨ k = B.og) (Kp.st (S := fun k => k = B.hg ∨ k = B.og) (Kp.refl _ _) (.inl (.inl rfl)) _ _) (.inl (.inl rfl)) _ _) (.inl (.inl rfl)) _ _) (.inl (.inr rfl)) _ _
 have K03 : Kp (fun k => k = B.og ∨ k = B.tg ∨ k = B.hg ∨ k = B.r ∨ B.ev.ownBlock = some k) w w3 := by rw [hw3]; exact Kp.st (S := fun k => k = B.og ∨ k = B.tg ∨ k = B.hg ∨ k = B.r ∨ B.ev.ownBlock = some k) (Kp.refl _ _) (.inl (.inr (.inl rfl))) _ _
 have K06 : Kp (fun k => k = B.og ∨ k = B.tg ∨ k = B.hg ∨ k = B.r ∨ B.ev.ownBlock = some k) w W6 := by
  have a5 := (K03.also hka).grown hgrow (fun k _ e => .inr (.inr (.inr (.inr e))))
  rw [hw6]
  exact Kp.st (S := fun k => k = B.og ∨ k = B.tg ∨ k = B.hg ∨ k = B.r ∨ B.ev.ownBlock = some k) a5 (.inl (.inr (.inr (.inr (.inl rfl))))) _ _
 have K : Kp (fun k => k = B.og ∨ k = B.tg ∨ k = B.hg ∨ k = B.r ∨ B.ev.ownBlock = some k) w W8 := (K06.also hk7).comp K78 (fun k _ e => by
  rcases e with e | e
  ·exact .inr (.inr (.inl e))
  ·exact .inl e)
 have nto : B.tg ≠ B.og := ne_of_type h.tgc h.ogc (by decide)
 have nth : B.tg ≠ B.hg := ne_of_type h.tgc h.hgc (by decide)
 have nho : B.hg ≠ B.og := ne_of_type h.hgc h.ogc (by decide)
 have nro : B.r ≠ B.og := ne_of_type h.run h.ogc (by decide)
 have nrt : B.r ≠ B.tg := ne_of_type h.run h.tgc (by decide)
 have nrh : B.r ≠ B.hg := ne_of_type h.run h.hgc (by decide)
 have neo : ∀ k, B.ev.ownBlock = some k → k ≠ B.og ∧ k ≠ B.tg ∧ k ≠ B.hg ∧ k ≠ B.r := fun k hk => ⟨(Ty.row h.evr hk).ne (Ty.of h.ogc) (by decide), (Ty.row h.evr hk).ne (Ty.of h.tgc) (by decide), (Ty.row h.evr hk).ne (Ty.of h.hgc) (by decide), (Ty.row h.evr hk).ne (Ty.of h.run) (by decide)⟩
 have log := lold B.og (.inl rfl)
 have ltg := lold B.tg (.inr (.inl rfl))
 have lhg := lold B.hg (.inr (.inr (.inl rfl)))
 have lr := lold B.r (.inr (.inr (.inr (.inl rfl))))
 have g'r : g' ≠ B.r := by
  rcases hat with e | e
  ·exact (neo g' e).2.2.2
  ·omega
 have g'hg : g' ≠ B.hg ∧ g' ≠ B.og := by
  rcases hat with e | e
  ·exact ⟨(neo g' e).2.2.1, (neo g' e).1⟩
  ·omega
 have up7 : ∀ (k : Nat) (ob : Obj), k < w.heap.size → B.ev.ownBlock ≠ some k → k ≠ B.r → w3.heap[k]? = some ob → W7.heap[k]? = some ob := fun k ob hl he hr hh => by
  refine hk7.heap ?_ (fun e => e)
  rw [hw6]
  exact (hp_other _ _ _ _ hr).trans ((hgrow.block k (by omega) (fun e => he e.symm)).trans (hka.heap hh (fun e => e)))
 have ht : t < σ.ths.length := (List.getElem?_eq_some_iff.1 hx).1
 have hlen : (σ.ths.set t { x with shelf := y.shelf, pol := y.pol, op := none }).length = σ.ths.length := List.length_set
 have g'new : ∀ k, k < w.heap.size → g' = k → B.ev.ownBlock = some k := fun k hk e => by
  rcases hat with e' | e'
  ·rw [e', e]
  ·omega
 obtain ⟨sv, hsv, hsh, hpr, hfew, hosx⟩ := h.ths t x hx
 rw [hy] at hosx
 obtain ⟨o, hos, hop, hyc⟩ := hosx
 have hot : t < B.os.length := (List.getElem?_eq_some_iff.1 hos).1
 have hst : t < B.sh.length := (List.getElem?_eq_some_iff.1 hsv).1
 have fixO : ∀ k, k < w.heap.size → RB.fix { B with ev := .slice (some ⟨g', 0, none⟩) (σ.evs.length + 1) cap', os := B.os.set t none, sh := B.sh.set t (.slice A' y.shelf.length c') } k → B.fix k := fun k hl e => by
  rcases e with e | e | e | e | e | e | e | e | e | e | e | ⟨sv', e, e'⟩
  ·exact .inl e
  ·exact .inr (.inl e)
  ·exact .inr (.inr (.inl e))
  ·exact .inr (.inr (.inr (.inl e)))
  ·exact .inr (.inr (.inr (.inr (.inl e))))
  ·exact .inr (.inr (.inr (.inr (.inr (.inl e)))))
  ·exact .inr (.inr (.inr (.inr (.inr (.inr (.inl e))))))
  ·exact .inr (.inr (.inr (.inr (.inr (.inr (.inr (.inl e)))))))
  ·exact .inr (.inr (.inr (.inr (.inr (.inr (.inr (.inr (.inl e))))))))
  ·exact .inr (.inr (.inr (.inr (.inr (.inr (.inr (.inr (.inr (.inl e)))))))))
  ·injection e with e
   exact hfix k (.inr (.inr (.inr (.inr (g'new k hl e)))))
  ·rcases List.mem_or_eq_of_mem_set e with e | e
   ·exact .inr (.inr (.inr (.inr (.inr (.inr (.inr (.inr (.inr (.inr (.inr ⟨sv', e, e'⟩))))))))))
   ·rw [e] at e'
    have := hsh7.own k e'
    omega
 refine ⟨{ B with ev := .slice (some ⟨g', 0, none⟩) (σ.evs.length + 1) cap', os := B.os.set t none, sh := B.sh.set t (.slice A' y.shelf.length c') }, ⟨rfl, rfl, rfl, rfl, rfl⟩, ?_, ?_, ?_⟩
 ·refine ⟨by show 1 ≤ (σ.ths.set t _).length ∧ (σ.ths.set t _).length ≤ 8; rw [hlen]; exact h.n8, by show (B.sh.set t _).length = (σ.ths.set t _).length; rw [hlen, List.length_set]; exact h.ls, by show (B.os.set t _).length = (σ.ths.set t _).length; rw [hlen, List.length_set]; exact h.lo, ?_, ?_, h.mem.kept K (fun k hk => ?_), h.src.kept K (fun k hk => ?_), ?_, ?_, ?_, ?_, ?_, ?_, h.right, h.rwt, h.pk, fun u z hz => ?_, fun u k hk => ?_, h.fpd⟩
  ·show RunnerC W8 B.r B.s _ (.slice _ (σ.ths.set t _).length (σ.ths.set t _).length) _
   rw [hlen]
   refine K78.heap (hk7.heap ?_ (fun e => e)) (fun e => e.elim nrh nro)
   rw [hw6]
   have e5 : W5.heap[B.r]? = some (.cells #[.pointer (some ⟨B.s, 0, none⟩), .iface 26 (.pointer (some ⟨B.k, 0, none⟩)), .slice (some ⟨B.pg, 0, none⟩) σ.ths.length σ.ths.length, B.ev] 126 (0, 0)) := by
    refine (hgrow.block B.r (by omega) (fun e => (neo _ e.symm).2.2.2 rfl)).trans (hka.heap ?_ (fun e => e))
    rw [hw3]
    exact (hp_other _ _ _ _ nrt).trans h.run
   exact hp_same _ B.r 3 _ e5
  ·show SchedC W8 B.s B.mb.m B.q B.tg (σ.ths.set t _).length σ.picks
   rw [hlen]
   exact K.heap h.sch (hnS _ _ (Ty.of h.sch) (by decide) (by decide) (by decide) (by decide) (by decide))
  ·obtain ⟨u, hT, hu⟩ := mem_ty h.mem hk
   rcases hu with rfl | rfl | rfl
   ·exact hnS _ _ hT (by decide) (by decide) (by decide) (by decide) (by decide)
   ·exact hnS _ _ hT (by decide) (by decide) (by decide) (by decide) (by decide)
   ·exact hnS _ _ hT (by decide) (by decide) (by decide) (by decide) (by decide)
  ·obtain ⟨u, hT, hu⟩ := src_ty h.src hk
   rcases hu with rfl | rfl
   ·exact hnS _ _ hT (by decide) (by decide) (by decide) (by decide) (by decide)
   ·exact hnS _ _ hT (by decide) (by decide) (by decide) (by decide) (by decide)
  ·show StacksC W8 B.k σ.c.cs (.slice _ (σ.ths.set t _).length (σ.ths.set t _).length) B.og (σ.ths.set t _).length
   rw [hlen]
   exact ⟨h.book.1, K.heap h.book.2 (hnS _ _ (Ty.of h.book.2) (by decide) (by decide) (by decide) (by decide) (by decide))⟩
  ·show W8.heap[B.tg]? = some (.cells ((B.os.set t none).map machV).toArray 149 (0, 0))
   refine K78.heap (up7 _ _ ltg (fun e => (neo _ e).2.1 rfl) (fun e => nrt e.symm) ?_) (fun e => e.elim nth nto)
   rw [← map_set, hw3]
   exact hp_same _ B.tg t (machV none) h.tgc
  ·show W8.heap[B.og]? = some (.cells ((B.os.set t none).map opV).toArray 65 (0, 0))
   rw [← map_set, hw8]
   refine hp_same _ B.og t (opV none) ((hp_other _ _ _ _ (fun e => nho e.symm)).trans ((hp_other _ _ _ _ (fun e => nho e.symm)).trans ((hp_other _ _ _ _ (fun e => nho e.symm)).trans ?_)))
   refine up7 _ _ log (fun e => (neo _ e).1 rfl) (fun e => nro e.symm) ?_
   rw [hw3]
   exact (hp_other _ _ _ _ (fun e => nto e.symm)).trans h.ogc
  ·show W8.heap[B.pg]? = some (.cells ((σ.ths.set t { x with shelf := y.shelf, pol := y.pol, op := none }).map (fun x => Value.bool x.push)).toArray 4 (0, 0))
   rw [← map_set]
   have e : (σ.ths.map (fun x => Value.bool x.push)).toArray.setIfInBounds t (.bool x.push) = (σ.ths.map (fun x => Value.bool x.push)).toArray := by
    apply Array.ext_getElem?
    intro j
    rw [Array.getElem?_setIfInBounds]
    split
    ·rename_i e
     subst e
     simp [hx]
     exact ht
    ·rfl
   have e' : (Value.bool ({ x with shelf := y.shelf, pol := y.pol, op := none } : Th).push) = .bool x.push := rfl
   rw [e', e]
   exact K.heap h.pgc (hnS _ _ (Ty.of h.pgc) (by decide) (by decide) (by decide) (by decide) (by decide))
  ·show W8.heap[B.hg]? = some (.cells (thRow (B.sh.set t (.slice A' y.shelf.length c')) (σ.ths.set t { x with shelf := y.shelf, pol := y.pol, op := none })).toArray 85 (0, 0))
   rw [← thRow_set hst ht, hw8]
   have e7 : W7.heap[B.hg]? = some (.cells (thRow B.sh σ.ths).toArray 85 (0, 0)) := by
    refine up7 _ _ lhg (fun e => (neo _ e).2.2.1 rfl) (fun e => nrh e.symm) ?_
    rw [hw3]
    exact (hp_other _ _ _ _ (fun e => nth e.symm)).trans h.hgc
   refine (hp_other _ _ _ _ nho).trans ?_
   have := hp_same _ B.hg (t * 3 + 2) (.int .i64 y.pol.exp) (hp_same _ B.hg (t * 3 + 1) (.int .i64 y.pol.range) (hp_same _ B.hg (t * 3) (.slice A' y.shelf.length c') e7))
   simpa using this
  ·show World.ownsRow W8 0 64 5 _ (σ.evs ++ [_]).length ((σ.evs ++ [_]).flatMap evV)
   rw [List.length_append, List.flatMap_append]
   have e : ([⟨t, true, x.push, v, st⟩] : List Ev).flatMap evV = evV ⟨t, true, x.push, v, st⟩ := by simp
   rw [e]
   have h6 : W6.ownsRow 0 64 5 (.slice (some ⟨g', 0, none⟩) (σ.evs.length + 1) cap') (σ.evs.length + 1) (σ.evs.flatMap evV ++ evV ⟨t, true, x.push, v, st⟩) := by
    rw [hw6]
    exact row_setCell hown _ (fun k hk => by
     injection hk with hk
     have hk : g' = k := hk
     rw [← hk]
     exact g'r) _
   refine K78.row (hk7.row h6 (fun _ _ e => e)) (fun k hk e => ?_)
   injection hk with hk
   have hk : g' = k := hk
   rw [← hk] at e
   exact e.elim g'hg.1 g'hg.2
  ·by_cases hu : u = t
   ·subst hu
    have hz2 : (σ.ths.set u { x with shelf := y.shelf, pol := y.pol, op := none })[u]? = some z := hz
    rw [List.getElem?_set_self ht] at hz2
    injection hz2 with hz2
    subst hz2
    refine ⟨.slice A' y.shelf.length c', List.getElem?_set_self hst, ⟨?_, fun _ _ => trivial, hsh7.range⟩, by rw [← hyc]; exact hop.rp, hop.few, List.getElem?_set_self hot⟩
    refine K78.row hsh7.row (fun k hk e => ?_)
    have := hsh7.own k hk
    rcases e with e | e
    ·have e : k = B.hg := e; omega
    ·have e : k = B.og := e; omega
   ·have hz2 : (σ.ths.set t { x with shelf := y.shelf, pol := y.pol, op := none })[u]? = some z := hz
    rw [List.getElem?_set_ne (fun e => hu e.symm)] at hz2
    refine (h.ths u z hz2).move (List.getElem?_set_ne (fun e => hu e.symm)) (List.getElem?_set_ne (fun e => hu e.symm)) rfl (fun k sv' h1 h2 => ?_) (fun k hk => ?_)
    ·have hT := h.sh_ty h1 h2
     exact K.block k (by obtain ⟨_, _, hh⟩ := hT; exact lt_of_heap hh) (hnS _ _ hT (by decide) (by decide) (by decide) (by decide) (by decide))
    ·exact K.block k (h.fpx u k hk).2 (fun e => (h.fpx u k hk).1 (hfix k e))
  ·have hf := h.fpx u k hk
   exact ⟨fun e => hf.1 (fixO k hf.2 e), by omega⟩
 ·exact K.mono (fun k e => .inl (hfix k e))
 ·intro k hk
  by_cases hl : w.heap.size ≤ k
  ·exact .inr hl
  refine .inl ?_
  rcases hk with e | ⟨u, e⟩
  ·exact .inl (fixO k (by omega) e)
  ·exact .inr ⟨u, e⟩
end Go.Proofs.YtgdoeoackhfikaaGreatDoor

namespace Go.Proofs.YtgdoeoackhfikaaGreatDoor
open Go.RowKit Go.Proofs.YtgdoeoackhfikaaGreatDoorW.PrintWords
set_option maxRecDepth 100000
set_option maxHeartbeats 4000000
set_option linter.unusedSimpArgs false
set_option linter.unusedVariables false
attribute [local go_sem] hs_other hs_alloc hs_falloc
attribute [local go_sem ↓] Go.wp_at_zero Go.wp_at_succ
theorem map_cell' {α : Type} {w : World} {g : Nat} {f : α → Value} {l : List α} {ty : TypeId} (h : w.heap[g]? = some (.cells (l.map f).toArray ty (0, 0))) {t : Nat} {x : α} (hx : l[t]? = some x) : w.cell? ⟨g, t, none⟩ = some (f x) := by
 rw [Lib.cell_of_heap h]
 simp [hx]
theorem runner_picked_idle (w : World) (B : RB) (σ : Run) (h : RunAt w B σ) (t : Nat) (x : Th) (hx : σ.ths[t]? = some x) (hy : x.op = none) :
  Calls Tryz.prog 47 #[.pointer (some ⟨B.r, 0, none⟩), .int .i64 t] w fun e w' => e = .returned (.int .i64 6) ∧ w' = w := by
 have ht : t < σ.ths.length := (List.getElem?_eq_some_iff.1 hx).1
 have hos : B.os[t]? = some none := by
  obtain ⟨_, _, _, _, _, h5⟩ := h.ths t x hx
  rw [hy] at h5
  exact h5
 have hc : w.cell? ⟨B.tg, t, none⟩ = some .nilIface := map_cell' h.tgc hos
 have hpk := sched_Pick_idle w B.s B.mb.m B.q B.tg σ.ths.length σ.picks t h.sch ht hc
 obtain ⟨q, _, _⟩ := obj_cells h.run
 have c0 : w.cell? ⟨B.r, 0, none⟩ = some (.pointer (some ⟨B.s, 0, none⟩)) := q 0
 clear q h
 go_enter Tryz.func47, Tryz.ntmps47
 go_wp2_with fail
 refine hpk.mono ?_
 rintro e w1 ⟨rfl, rfl⟩
 go_wp2
 go_ret
 exact ⟨rfl, rfl⟩
theorem pick_step {w : World} {B : RB} {σ : Run} (h : RunAt w B σ) (hp : σ.picks < 1000000000) {t : Nat} {x : Th} (hx : σ.ths[t]? = some x) {y : OpS} (hy : x.op = some y) {o : Nat} (ho : B.os[t]? = some (some o)) (hS : OpSteps y σ.mem σ.src) :
  Calls Tryz.prog 85 #[.pointer (some ⟨B.s, 0, none⟩), .int .i64 t] w fun e w' => ∃ (W1 W : World), e = .returned (.tuple #[.int .i64 (y.step σ.mem σ.src).1.st, .int .u64 (y.step σ.mem σ.src).1.told, .int .i64 0]) ∧ Kp (fun _ => False) (w.setCell ⟨B.s, 3, none⟩ (.int .i64 (σ.picks + 1))) W1 ∧
   OPost (B.fp t) W1 B.mb B.q B.dv (y.step σ.mem σ.src).2.1 (y.step σ.mem σ.src).2.2 W (fun W' F' => OpAt W' F' o (y.step σ.mem σ.src).1) ∧ w' = if (y.step σ.mem σ.src).1.st = 0 then W else W.setCell ⟨B.tg, t, none⟩ .nilIface := by
 have ht : t < σ.ths.length := (List.getElem?_eq_some_iff.1 hx).1
 have hc : w.cell? ⟨B.tg, t, none⟩ = some (.iface 65 (.pointer (some ⟨o, 0, none⟩))) := map_cell' h.tgc ho
 refine (sched_Pick w B.s B.mb.m B.q B.tg σ.ths.length σ.picks ⟨h.pk, hp⟩ t o h.sch ht hc (fun st v W => st = (y.step σ.mem σ.src).1.st ∧ v = (y.step σ.mem σ.src).1.told ∧ ∃ W1, Kp (fun _ => False) (w.setCell ⟨B.s, 3, none⟩ (.int .i64 (σ.picks + 1))) W1 ∧ OPost (B.fp t) W1 B.mb B.q B.dv (y.step σ.mem σ.src).2.1 (y.step σ.mem σ.src).2.2 W (fun W' F' => OpAt W' F' o (y.step σ.mem σ.src).1)) ?_).mono ?_
 ·intro W1 hk
  have h1 := h.counted.kept hk (fun _ _ e => e)
  have hth := h1.ths t x hx
  obtain ⟨sv, hsv, hsh, hpr, hfew, hop⟩ := hth
  rw [hy] at hop
  obtain ⟨o', ho', hop, hyc⟩ := hop
  have e : o' = o := by rw [ho] at ho'; injection ho' with e; injection e with e; exact e.symm
  subst e
  have hA : Apart W1 B.mb (B.fp t) := ⟨fun k hk hb => (h1.fpx t k hk).1 (.inr (.inr (.inr (.inr (.inl hb))))), fun k hk => (h1.fpx t k hk).2⟩
  have hsa : SApart B.mb (B.fp t) B.q B.dv := fun k hk => by
   refine ⟨fun hf => (h1.fpx t k hf).1 ?_, fun hb => ?_⟩
   ·rcases hk with hk | hk
    ·exact .inr (.inr (.inl hk))
    ·exact .inr (.inr (.inr (.inr (.inr (.inl hk)))))
   ·obtain ⟨u, hT, hu⟩ := src_ty h1.src hk
    obtain ⟨v, hV, hv⟩ := mem_ty h1.mem hb
    rcases hu with rfl | rfl <;> rcases hv with rfl | rfl | rfl <;> exact hT.ne hV (by decide) rfl
  refine (hS W1 B.mb B.q B.dv (B.fp t) o' h1.mem h1.src hA hsa hop).mono ?_
  rintro e w2 ⟨rfl, hP⟩
  have hP0 := hP
  obtain ⟨nv', dv', hm, hs, hn, hd, K, hx'⟩ := hP
  have f1 : B.fix B.s := .inr (.inl rfl)
  have f6 : B.fix B.tg := .inr (.inr (.inr (.inr (.inr (.inr (.inl rfl))))))
  have htg := K.heap h1.tgc (h1.aside t _ _ f6 (Ty.of h1.tgc) (by decide) (by decide) (by decide) (by decide) (by decide))
  exact ⟨_, _, rfl, K.heap h1.sch (h1.aside t _ _ f1 (Ty.of h1.sch) (by decide) (by decide) (by decide) (by decide) (by decide)), Lib.frozen_of_heap htg t, map_cell' htg ho, rfl, rfl, W1, hk, hP0⟩
 ·rintro e w2 ⟨st, v, W, rfl, ⟨rfl, rfl, W1, hk, hP⟩, hw⟩
  exact ⟨W1, W, rfl, hk, hP, hw⟩
theorem runner_picked_runs (w : World) (B : RB) (σ : Run) (h : RunAt w B σ) (hp : σ.picks < 1000000000) (t : Nat) (x : Th) (hx : σ.ths[t]? = some x) (y : OpS) (hy : x.op = some y) (hS : OpSteps y σ.mem σ.src) (h0 : (y.step σ.mem σ.src).1.st = 0) :
  Calls Tryz.prog 47 #[.pointer (some ⟨B.r, 0, none⟩), .int .i64 t] w fun e w' => e = .returned (.int .i64 0) ∧ ∃ B', B.Like B' ∧ RunAt w' B' (σ.picked t x).1 ∧ Kp B.all w w' ∧ (∀ k, B'.all k → B.all k ∨ w.heap.size ≤ k) := by
 obtain ⟨sv, hsv, hsh, hpr, hfew, hop⟩ := h.ths t x hx
 rw [hy] at hop
 obtain ⟨o, ho, _, hyc⟩ := hop
 have hpk := pick_step h hp hx hy ho hS
 rw [h0] at hpk
 have hE : (σ.picked t x).1 = { σ with picks := σ.picks + 1, mem := (y.step σ.mem σ.src).2.1, src := (y.step σ.mem σ.src).2.2, ths := σ.ths.set t { x with op := some (y.step σ.mem σ.src).1 } } := by
  unfold Run.picked
  rw [hy]
  dsimp only
  rw [if_pos h0]
 rw [hE]
 obtain ⟨q, _, _⟩ := obj_cells h.run
 have c0 : w.cell? ⟨B.r, 0, none⟩ = some (.pointer (some ⟨B.s, 0, none⟩)) := q 0
 have H := Lib.hid h
 have HE := Lib.hid hE
 clear q h hE h0
 go_enter Tryz.func47, Tryz.ntmps47
 go_wp2_with fail
 refine hpk.mono ?_
 rintro e w1 ⟨W1, W, rfl, hk, hP, hw0⟩
 have hw : w1 = W := by simpa using hw0
 clear hw0
 obtain rfl := hw
 have HP := Lib.hid hP
 clear hP
 go_wp2
 go_ret
 refine ⟨rfl, ?_⟩
 have h1 := H.out.counted.kept hk (fun _ _ e => e)
 have K1 : Kp B.all w W1 := ((Kp.st (S := B.all) (Kp.refl _ _) (.inl (.inl (.inr (.inl rfl)))) 3 _)).also hk
 obtain ⟨B', b1, b2, b3, b4, _⟩ := h1.stepped hx hy (step_c y _ _) ho HP.out
 exact ⟨B', b1, b2, K1.comp b3 (fun _ _ e => e), fun k e => (b4 k e).imp id (fun e => by have := K1.size; omega)⟩
theorem thRow_cell' {sh : List Value} {ths : List Th} {t : Nat} {sv : Value} {x : Th} (h1 : sh[t]? = some sv) (h2 : ths[t]? = some x) (i : Nat) (hi : i < 3) : (thRow sh ths)[t * 3 + i]? = (thV sv x.pol)[i]? := by
 unfold thRow
 induction sh generalizing ths t with
 | nil => simp at h1
 | cons a sh ih =>
  cases ths with
  | nil => simp at h2
  | cons y ths =>
   cases t with
   | zero =>
    simp at h1 h2
    subst h1
    subst h2
    simp only [List.zipWith_cons_cons, List.flatten_cons, Nat.zero_mul, Nat.zero_add]
    rw [List.getElem?_append_left (by simp [thV]; omega)]
   | succ t =>
    simp at h1 h2
    have := ih h1 h2
    simp only [List.zipWith_cons_cons, List.flatten_cons]
    rw [List.getElem?_append_right (by simp [thV]; omega)]
    have e : (t + 1) * 3 + i - (thV a y.pol).length = t * 3 + i := by simp [thV]; omega
    rw [e]
    exact this
theorem ended_call {w w3 wa W5 W6 : World} {B : RB} {σ : Run} (h : RunAt w B σ) {t : Nat} {x : Th} (hx : σ.ths[t]? = some x) {y : OpS} (hy : x.op = some y)
  (hw3 : w3 = w.setCell ⟨B.tg, t, none⟩ .nilIface) (hka : Kp (fun _ => False) w3 wa) {v : Value} (hgrow : wa.grownBy W5 B.ev.ownBlock) (hw6 : W6 = W5.setCell ⟨B.r, 3, none⟩ v) :
  W6.cell? ⟨B.r, 1, none⟩ = some (.iface 26 (.pointer (some ⟨B.k, 0, none⟩))) ∧ Calls Tryz.prog 206 #[.pointer (some ⟨B.k, 0, none⟩), .int .i64 t] W6 (EndedPost W6 B.hg B.og t y.shelf y.pol) := by
 have ht : t < σ.ths.length := (List.getElem?_eq_some_iff.1 hx).1
 obtain ⟨sv, hsv, hsh, hpr, hfew, hop⟩ := h.ths t x hx
 rw [hy] at hop
 obtain ⟨o, ho, hop, hyc⟩ := hop
 obtain ⟨_, hsv', _, _, _, t0, t1, t2⟩ : ∃ sv, B.sh[t]? = some sv ∧ ShelfAt w (fun _ => True) sv x.shelf ∧ x.pol.right σ.c.l.slots ∧ x.shelf.length ≤ 1000000 ∧ (w.cell? ⟨B.hg, t * 3, none⟩ = some sv) ∧ (w.cell? ⟨B.hg, t * 3 + 1, none⟩ = some (.int .i64 x.pol.range)) ∧ (w.cell? ⟨B.hg, t * 3 + 2, none⟩ = some (.int .i64 x.pol.exp)) := by
  refine ⟨sv, hsv, hsh, hpr, hfew, ?_, ?_, ?_⟩
  ·rw [Lib.cell_of_heap h.hgc]
   have := thRow_cell' hsv hx 0 (by omega)
   simpa [thV] using this
  ·rw [Lib.cell_of_heap h.hgc]
   have := thRow_cell' hsv hx 1 (by omega)
   simpa [thV] using this
  ·rw [Lib.cell_of_heap h.hgc]
   have := thRow_cell' hsv hx 2 (by omega)
   simpa [thV] using this
 have K06 : Kp (fun k => k = B.tg ∨ k = B.r ∨ B.ev.ownBlock = some k) w W6 := by
  have a3 : Kp (fun k => k = B.tg ∨ k = B.r ∨ B.ev.ownBlock = some k) w w3 := by rw [hw3]; exact Kp.st (S := fun k => k = B.tg ∨ k = B.r ∨ B.ev.ownBlock = some k) (Kp.refl _ _) (.inl (.inl rfl)) _ _
  have a5 := (a3.also hka).grown hgrow (fun k _ e => .inr (.inr e))
  rw [hw6]
  exact Kp.st (S := fun k => k = B.tg ∨ k = B.r ∨ B.ev.ownBlock = some k) a5 (.inl (.inr (.inl rfl))) _ _
 have hn : ∀ k u, Ty w k u → u ≠ 149 → u ≠ 126 → u ≠ 64 → ¬ (k = B.tg ∨ k = B.r ∨ B.ev.ownBlock = some k) := fun k u hT e1 e2 e3 hk => by
  rcases hk with rfl | rfl | hk
  ·exact hT.ne (Ty.of h.tgc) e1 rfl
  ·exact hT.ne (Ty.of h.run) e2 rfl
  ·exact hT.ne (Ty.row h.evr hk) e3 rfl
 have nrt : B.r ≠ B.tg := ne_of_type h.run h.tgc (by decide)
 have lr := lt_of_heap h.run
 have s3 : w3.heap.size = w.heap.size := by rw [hw3]; simp [World.setCell]
 have sa := hka.size
 have hfp : ∀ k, B.fp t k → ¬ (k = B.tg ∨ k = B.r ∨ B.ev.ownBlock = some k) := fun k hk e => by
  refine (h.fpx t k hk).1 ?_
  rcases e with e | e | e
  ·exact .inr (.inr (.inr (.inr (.inr (.inr (.inl e))))))
  ·exact .inl e
  ·exact .inr (.inr (.inr (.inr (.inr (.inr (.inr (.inr (.inr (.inr (.inl e))))))))))
 constructor
 ·have e5 : W5.heap[B.r]? = some (.cells #[.pointer (some ⟨B.s, 0, none⟩), .iface 26 (.pointer (some ⟨B.k, 0, none⟩)), .slice (some ⟨B.pg, 0, none⟩) σ.ths.length σ.ths.length, B.ev] 126 (0, 0)) := by
   refine (hgrow.block B.r (by omega) (fun e => (Ty.row h.evr e.symm).ne (Ty.of h.run) (by decide) rfl)).trans (hka.heap ?_ (fun e => e))
   rw [hw3]
   exact (hp_other _ _ _ _ nrt).trans h.run
  rw [hw6]
  exact (obj_cells (hp_same _ B.r 3 v e5)).1 1
 ·have hhg := hn _ _ (Ty.of h.hgc) (by decide) (by decide) (by decide)
  have hog := hn _ _ (Ty.of h.ogc) (by decide) (by decide) (by decide)
  have e1 := K06.heap h.hgc hhg
  have e2 := K06.heap h.ogc hog
  exact stacks_Ended W6 B.k σ.c.cs B.hg B.og σ.ths.length t ⟨h.book.1, K06.heap h.book.2 (hn _ _ (Ty.of h.book.2) (by decide) (by decide) (by decide))⟩ ht (B.fp t) o y (hop.kept (fun k ob hk hh => K06.heap hh (hfp k hk)) (fun _ h => h)) _ _ _ (K06.cell t0 hhg) (K06.cell t1 hhg) (K06.cell t2 hhg) (fun j => Lib.frozen_of_heap e1 j) (map_cell' (f := opV) (x := some o) e2 ho) (Lib.frozen_of_heap e2 t) (ne_of_type h.book.2 h.ogc (by decide)) (ne_of_type h.hgc h.ogc (by decide)) (ne_of_type h.book.2 h.hgc (by decide))
theorem runner_picked_ends (w : World) (B : RB) (σ : Run) (h : RunAt w B σ) (hp : σ.picks < 1000000000) (hev : σ.evs.length < 1000000000) (t : Nat) (x : Th) (hx : σ.ths[t]? = some x) (y : OpS) (hy : x.op = some y) (hS : OpSteps y σ.mem σ.src) (h0 : (y.step σ.mem σ.src).1.st ≠ 0) :
  Calls Tryz.prog 47 #[.pointer (some ⟨B.r, 0, none⟩), .int .i64 t] w fun e w' => e = .returned (.int .i64 0) ∧ ∃ B', B.Like B' ∧ RunAt w' B' (σ.picked t x).1 ∧ Kp B.all w w' ∧ (∀ k, B'.all k → B.all k ∨ w.heap.size ≤ k) := by
 have ht : t < σ.ths.length := (List.getElem?_eq_some_iff.1 hx).1
 obtain ⟨sv, hsv, hsh, hpr, hfew, hop⟩ := h.ths t x hx
 rw [hy] at hop
 obtain ⟨o, ho, _, hyc⟩ := hop
 have hpk := pick_step h hp hx hy ho hS
 simp only [if_neg h0] at hpk
 have hcc : (y.step σ.mem σ.src).1.c = y.c := step_c y _ _
 obtain ⟨Y, hY⟩ : ∃ Y, Y = y.step σ.mem σ.src := ⟨_, rfl⟩
 rw [← hY] at hpk h0 hcc
 have hE : (σ.picked t x).1 = { σ with picks := σ.picks + 1, mem := Y.2.1, src := Y.2.2, ths := σ.ths.set t { x with shelf := Y.1.shelf, pol := Y.1.pol, op := none }, evs := σ.evs ++ [⟨t, true, x.push, Y.1.told, Y.1.st⟩] } := by
  unfold Run.picked
  rw [hy]
  dsimp only
  rw [← hY, if_neg h0]
 rw [hE]
 clear hY hE
 obtain ⟨⟨yS, m', r'⟩, rfl⟩ : ∃ z, z = Y := ⟨_, rfl⟩
 dsimp only at *
 obtain ⟨st, hst⟩ : ∃ st, st = yS.st := ⟨_, rfl⟩
 obtain ⟨v, hv⟩ : ∃ v, v = yS.told := ⟨_, rfl⟩
 rw [← hst, ← hv] at hpk ⊢
 rw [← hst] at h0
 have t0 : (st == 0) = false := beq_eq_false_iff_ne.2 h0
 obtain ⟨q, fq, lr⟩ := obj_cells h.run
 have c0 : w.cell? ⟨B.r, 0, none⟩ = some (.pointer (some ⟨B.s, 0, none⟩)) := q 0
 have H := Lib.hid h
 clear q fq h h0 hst hv hsh hS
 go_enter Tryz.func47, Tryz.ntmps47
 go_wp2_with fail
 refine hpk.mono ?_
 rintro e w3 ⟨W1, W, rfl, hk, hP, hw3⟩
 have h1 := H.out.counted.kept hk (fun _ _ e => e)
 have K1 : Kp B.all w W1 := ((Kp.st (S := B.all) (Kp.refl _ _) (.inl (.inl (.inr (.inl rfl)))) 3 _)).also hk
 obtain ⟨B2, b1, h2, b3, b4, b5, b6⟩ := h1.stepped hx hy hcc ho hP
 have hx2 : (σ.ths.set t { x with op := some yS })[t]? = some { x with op := some yS } := List.getElem?_set_self ht
 have ho2 : B2.os[t]? = some (some o) := by rw [b5]; exact ho
 have hth2 := h2.ths t _ hx2
 obtain ⟨sv2, hsv2, hsh2, hpr2, hfew2, o', ho', hop2, hyc2⟩ := hth2
 have e : o' = o := by rw [ho2] at ho'; injection ho' with e; injection e with e; exact e.symm
 subst e
 rw [← b6] at hw3
 obtain ⟨A, cc, hev0⟩ := row_slice h2.evr
 have nrt : B2.r ≠ B2.tg := ne_of_type h2.run h2.tgc (by decide)
 have npt : B2.pg ≠ B2.tg := ne_of_type h2.pgc h2.tgc (by decide)
 have K23 : Kp (fun k => k = B2.tg) W w3 := by rw [hw3]; exact Kp.st (S := fun k => k = B2.tg) (Kp.refl _ _) (.inl rfl) t _
 have hrun3 := K23.heap h2.run nrt
 have hpg3 := K23.heap h2.pgc npt
 obtain ⟨q, fq, lr3⟩ := obj_cells hrun3
 have hlen : (σ.ths.set t { x with op := some yS }).length = σ.ths.length := List.length_set
 have e1 : w3.cell? ⟨B.r, 1, none⟩ = some (.iface 26 (.pointer (some ⟨B2.k, 0, none⟩))) := by rw [← b1.r]; exact q 1
 have e2 : w3.cell? ⟨B.r, 2, none⟩ = some (.slice (some ⟨B2.pg, 0, none⟩) σ.ths.length σ.ths.length) := by rw [← b1.r, ← hlen]; exact q 2
 have e3 : w3.cell? ⟨B.r, 3, none⟩ = some (.slice A σ.evs.length cc) := by rw [← b1.r, q 3]; show some B2.ev = _; rw [hev0]
 have f3 : w3.frozen? ⟨B.r, 3, none⟩ = false := by rw [← b1.r]; exact fq 3
 have ep : w3.cell? ⟨B2.pg, t, none⟩ = some (.bool x.push) := map_cell' (f := fun x : Th => Value.bool x.push) (l := σ.ths.set t { x with op := some yS }) (x := { x with op := some yS }) hpg3 hx2
 have lr3' : B.r < w3.heap.size := by rw [← b1.r]; exact lr3
 have ht' : (t : Int) < (σ.ths.length : Int) := by omega
 have hrow2 : w3.ownsRow 0 64 5 (.slice A σ.evs.length cc) σ.evs.length (σ.evs.flatMap evV) := by
  have hE := h2.evr
  rw [hev0] at hE
  exact K23.row hE (fun k hk => (Ty.row hE hk).ne (Ty.of h2.tgc) (by decide))
 have n1 : some B.r ≠ (Value.slice A σ.evs.length cc).ownBlock := fun e => by
  have hE := h2.evr
  rw [hev0] at hE
  rw [← b1.r] at e
  exact (Ty.row hE e.symm).ne (Ty.of h2.run) (by decide) rfl
 obtain ⟨i0, hi, hz0, hz1, hz2⟩ := info_parts info_ev
 have HR4 := Lib.hid hrow2
 have H2 := Lib.hid h2
 have HW3 := Lib.hid hw3
 have HB3 := Lib.hid b3
 have HB4 := Lib.hid b4
 have HEV := Lib.hid hev0
 have hev3 : ∀ (ob : Obj), ((w3.alloc ob).cell? ⟨B.r, 3, none⟩) = some (.slice A σ.evs.length cc) := fun ob => kc ob e3
 have hev1 : ∀ (ob : Obj), ((w3.alloc ob).cell? ⟨B.r, 1, none⟩) = some (.iface 26 (.pointer (some ⟨B2.k, 0, none⟩))) := fun ob => kc ob e1
 have hev2 : ∀ (ob : Obj), ((w3.alloc ob).cell? ⟨B.r, 2, none⟩) = some (.slice (some ⟨B2.pg, 0, none⟩) σ.ths.length σ.ths.length) := fun ob => kc ob e2
 have hevf : ∀ (ob : Obj), ((w3.alloc ob).frozen? ⟨B.r, 3, none⟩) = false := fun ob => kf ob lr3' f3
 have hevp : ∀ (ob : Obj), ((w3.alloc ob).cell? ⟨B2.pg, t, none⟩) = some (.bool x.push) := fun ob => kc ob ep
 clear h1 h2 hP hw3 b3 b4 hev0 q fq hrow2 c0 hrun3 hpg3
 go_wp2_with fail
 go_region_law (refine step_append_lies _ (by rfl) _ _ _ (by rfl) 0 64 i0 _ 5 32 Tryz.underlying45 hi hz0 hz1 hz2 rfl (by decide) (.slice A σ.evs.length cc) σ.evs.length _ (by rfl) (row_alloc HR4.out _) ⟨w3.heap.size, 0, none⟩ 1 1 [.int .i64 (t : Int), .bool true, .bool x.push, .int .u64 v, .int .i64 st] (by rfl) (by rfl) (World.news_of_block (heap_alloc_new _ _)) (by simp [Value.oneCell']) (by omega) (by unfold maxLen; omega) (by omega) (by simp) _ rfl ?_; intro g' cap' W5 hown5 hgrow hat hlt; have q1 := hgrow.cell (kc _ e3) n1; have q2 := gf hgrow n1 (by simp; omega) (kf _ lr3' f3))
 all_goals have hcall := ended_call H2.out (σ := { σ with picks := σ.picks + 1, mem := m', src := r', ths := σ.ths.set t { x with op := some yS } }) hx2 rfl HW3.out (((Kp.refl _ _).alloc _).drew) (v := .slice (some ⟨g', 0, none⟩) (σ.evs.length + 1) cap') (by rw [HEV.out]; exact hgrow) rfl
 all_goals rw [b1.r] at hcall
 all_goals have HG := Lib.hid hgrow
 all_goals have HOW := Lib.hid hown5
 all_goals clear hgrow hown5 q1 q2 hev1 hev2 hev3 hevf hevp e1 e2 e3 f3 ep
 all_goals refine any_world (p := fun W => Exit.then _ _ _ _ W) ?_
 all_goals intro W6 hW6
 all_goals rw [← hW6] at hcall
 all_goals have HW6 := Lib.hid hW6
 all_goals have d1 := hcall.1
 all_goals have hend := hcall.2
 all_goals clear hW6 hcall
 all_goals go_wp2_with fail
 all_goals refine hend.mono ?_
 all_goals rintro e W8 ⟨A', c', W7, rfl, hk7, hsh7, hw8⟩
 all_goals have HW8 := Lib.hid hw8
 all_goals have HS7 := Lib.hid hsh7
 all_goals clear hw8 hsh7 hend d1
 all_goals go_wp2
 all_goals go_ret
 all_goals refine ⟨rfl, ?_⟩
 all_goals obtain ⟨B3, z1, z2, z3, z4⟩ := ended_done H2.out (σ := { σ with picks := σ.picks + 1, mem := m', src := r', ths := σ.ths.set t { x with op := some yS } }) hx2 rfl HW3.out (((Kp.refl _ _).alloc _).drew) (by rw [HEV.out]; exact HG.out) HOW.out (by rw [HEV.out]; simpa using hat) hlt (by rw [b1.r]; exact HW6.out) hk7 HS7.out HW8.out
 all_goals simp only [List.set_set] at z2
 all_goals have hKA : Kp B.all w W := K1.comp HB3.out (fun _ _ e => e)
 all_goals have hKB : Kp B.all w W8 := hKA.comp z3 (fun k hk e => (HB4.out k e).elim id (fun e => by have := K1.size; omega))
 all_goals exact ⟨B3, ⟨z1.r.trans b1.r, z1.s.trans b1.s, z1.q.trans b1.q, z1.k.trans b1.k, z1.m.trans b1.m⟩, z2, hKB, fun k e => (z4 k e).elim (fun e => (HB4.out k e).imp id (fun e => by have := K1.size; omega)) (fun e => .inr (by have := hKA.size; omega))⟩
end Go.Proofs.YtgdoeoackhfikaaGreatDoor

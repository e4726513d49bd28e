/-
  Parts of the proof of runnerSkips_holds: TaglistA, TaglistB, TaglistC, TaglistD, TaglistE, TaglistF, TaglistG.
-/
import Derived.Test.YtgdoeoackhfikaaGreatDoorQA3
namespace Go.Proofs.YtgdoeoackhfikaaGreatDoor
open Go.RowKit Go.Proofs.YtgdoeoackhfikaaGreatDoorW.PrintWords
set_option maxRecDepth 100000
set_option maxHeartbeats 2000000
set_option linter.unusedSimpArgs false
set_option linter.unusedVariables false
attribute [local go_sem] hs_other hs_alloc hs_falloc run_store_func run_makeFunc
attribute [local go_sem ↓] Go.wp_at_zero Go.wp_at_succ
def TN.isTake : TN → Bool
 | .th | .ts | .tw _ => true
 | _ => false
def NextFn (w : World) (F : Nat → Prop) (t : Nat) (x : TN) (fv : Value) : Prop :=
 match x with
 | .th => fv = .func (.func 215) #[.pointer (some ⟨t, 0, none⟩)] #[]
 | .ts => fv = .func (.func 218) #[.pointer (some ⟨t, 0, none⟩)] #[]
 | .tw n => ∃ bt bn, F bt ∧ F bn ∧ fv = .func (.func 221) #[] #[.pointer (some ⟨bt, 0, none⟩), .pointer (some ⟨bn, 0, none⟩)] ∧ w.heap[bt]? = some (.cells #[.pointer (some ⟨t, 0, none⟩)] 324 (0, 0)) ∧ w.heap[bn]? = some (.cells #[.int .u64 n] 33 (0, 0))
 | .gh => fv = .func (.func 255) #[.pointer (some ⟨t, 0, none⟩)] #[]
 | .gs => fv = .func (.func 261) #[.pointer (some ⟨t, 0, none⟩)] #[]
 | .gw => ∃ bt, F bt ∧ fv = .func (.func 263) #[] #[.pointer (some ⟨bt, 0, none⟩)] ∧ w.heap[bt]? = some (.cells #[.pointer (some ⟨t, 0, none⟩)] 379 (0, 0))
def TL.ty (x : TL) : TypeId := if x.nx.isTake then 339 else 387
def TL.cs (x : TL) (fv : Value) : Array Value := #[.int .i64 x.c.nodes, .int .i64 x.c.slots, .int .i64 x.c.holders, .int .u32 x.c.tag, .int .i64 x.at_, .int .u32 x.i, .int .u64 x.w, fv, .int .i64 x.st]
structure TLAt (w : World) (F : Nat → Prop) (t : Nat) (x : TL) : Prop where
 own : F t
 obj : ∃ fv, w.heap[t]? = some (.cells (x.cs fv) x.ty (0, 0)) ∧ NextFn w F t x.nx fv
 ri : 0 ≤ x.i ∧ x.i < 4294967296
 rw : 0 ≤ x.w ∧ x.w < 18446744073709551616
 right : x.c.right
 rn : ∀ n, x.nx = .tw n → 0 ≤ n ∧ n < 18446744073709551616
theorem NextFn.kept {w W : World} {F F' : Nat → Prop} {t : Nat} {x : TN} {fv : Value} (h : NextFn w F t x fv) (hk : ∀ k o, F k → w.heap[k]? = some o → k ≠ t → W.heap[k]? = some o) (hF : ∀ k, F k → F' k) (ht : ∀ cs u, w.heap[t]? = some (.cells cs u (0, 0)) → u = 339 ∨ u = 387) : NextFn W F' t x fv := by
 have hne : ∀ b cs u, w.heap[b]? = some (.cells cs u (0, 0)) → u ≠ 339 → u ≠ 387 → b ≠ t := fun b cs u hb h1 h2 e => by
  subst e
  rcases ht cs u hb with h | h
  ·exact h1 h
  ·exact h2 h
 cases x with
 | th => exact h
 | ts => exact h
 | gh => exact h
 | gs => exact h
 | tw n =>
  obtain ⟨bt, bn, h1, h2, h3, h4, h5⟩ := h
  exact ⟨bt, bn, hF _ h1, hF _ h2, h3, hk _ _ h1 h4 (hne _ _ _ h4 (by decide) (by decide)), hk _ _ h2 h5 (hne _ _ _ h5 (by decide) (by decide))⟩
 | gw =>
  obtain ⟨bt, h1, h3, h4⟩ := h
  exact ⟨bt, hF _ h1, h3, hk _ _ h1 h4 (hne _ _ _ h4 (by decide) (by decide))⟩
theorem TLAt.kept {w W : World} {F F' : Nat → Prop} {t : Nat} {x : TL} (h : TLAt w F t x) (hk : ∀ k o, F k → w.heap[k]? = some o → W.heap[k]? = some o) (hF : ∀ k, F k → F' k) : TLAt W F' t x := by
 obtain ⟨fv, ho, hn⟩ := h.obj
 exact ⟨hF _ h.own, ⟨fv, hk _ _ h.own ho, hn.kept (fun k o h1 h2 _ => hk k o h1 h2) hF (fun cs u hh => by
  rw [ho] at hh
  injection hh with hh
  injection hh with _ hu
  rw [← hu]
  unfold TL.ty
  cases x.nx.isTake
  ·exact .inr rfl
  ·exact .inl rfl)⟩, h.ri, h.rw, h.right, h.rn⟩
theorem taglist_swap (w : World) (b : MB) (σ : MemS) (hb : MemAt w b σ) (hfn : σ.notes.length < 1000000000) (t : Nat) (x : TL) (fv : Value) (ho : w.heap[t]? = some (.cells (x.cs fv) x.ty (0, 0))) (first : Int) (hf : 0 ≤ first ∧ first < 4294967296) (hw : 0 ≤ x.w ∧ x.w < 18446744073709551616) :
  Calls Tryz.prog 222 #[.pointer (some ⟨t, 0, none⟩), .pointer (some ⟨b.m, 0, none⟩), .int .u32 first] w fun e w' => e = .returned (.int .i64 (x.swp σ first).2) ∧ MemPost w b (x.swp σ first).1 w' := by
 obtain ⟨q, fq, lq⟩ := obj_cells ho
 have c4 : w.cell? ⟨t, 4, none⟩ = some (.int .i64 x.at_) := q 4
 have c6 : w.cell? ⟨t, 6, none⟩ = some (.int .u64 x.w) := q 6
 clear q fq
 have ht : ¬ b.has t := hb.not_has ho (by unfold TL.ty; split <;> decide) (by unfold TL.ty; split <;> decide) (by unfold TL.ty; split <;> decide)
 have hv : 0 ≤ nextW x.w first ∧ nextW x.w first < 18446744073709551616 := by unfold nextW wordOf nextTag; omega
 have hnx := fun w => pack_Next x.w first w hw hf
 have hv' : nextW x.w first = wordOf first (nextTag x.w) := rfl
 rw [← hv'] at hnx
 clear hv'
 by_cases hh : σ.has x.at_
 ·have e1 : x.swp σ first = (σ.swap x.at_ x.w (nextW x.w first), if σ.get x.at_ = x.w then 1 else 3) := by unfold TL.swp; rw [if_pos hh]
  rw [e1]
  clear e1
  by_cases ho : σ.get x.at_ = x.w
  ·rw [if_pos ho]
   have hd : decide (σ.get x.at_ = x.w) = true := by simpa using ho
   clear ho
   go_enter Tryz.func222, Tryz.ntmps222
   go_wp2
   go_region_held3 (fun w' => w'.cell? ⟨t, 4, none⟩ = some (.int .i64 x.at_) ∧ w'.cell? ⟨t, 6, none⟩ = some (.int .u64 x.w))
    (first | exact ⟨c4, c6⟩ | exact ⟨keep_cell hbN c4, keep_cell hbN c6⟩ | exact ⟨hpk.cell (keep_cell hbN c4) ht, hpk.cell (keep_cell hbN c6) ht⟩)
    ((first | (go_at_call 224; refine (hnx _).mono ?_; rintro e wN ⟨rfl, hbN'⟩; have hbN := undrew hbN') | (go_at_call 223; refine (mem_swap _ b σ (hb.same (Kp.nb hbN)) hfn x.at_ x.w _ hv).mono ?_; rintro e wS hS; obtain ⟨rfl, hp⟩ := hS.1 hh; have hpk := hp.kp; try rw [hd])))
   go_wp2
   go_ret
   exact ⟨rfl, hp.before hb (Kp.nb hbN)⟩
  ·rw [if_neg ho]
   have hd : decide (σ.get x.at_ = x.w) = false := by simpa using ho
   clear ho
   go_enter Tryz.func222, Tryz.ntmps222
   go_wp2
   go_region_held3 (fun w' => w'.cell? ⟨t, 4, none⟩ = some (.int .i64 x.at_) ∧ w'.cell? ⟨t, 6, none⟩ = some (.int .u64 x.w))
    (first | exact ⟨c4, c6⟩ | exact ⟨keep_cell hbN c4, keep_cell hbN c6⟩ | exact ⟨hpk.cell (keep_cell hbN c4) ht, hpk.cell (keep_cell hbN c6) ht⟩)
    ((first | (go_at_call 224; refine (hnx _).mono ?_; rintro e wN ⟨rfl, hbN'⟩; have hbN := undrew hbN') | (go_at_call 223; refine (mem_swap _ b σ (hb.same (Kp.nb hbN)) hfn x.at_ x.w _ hv).mono ?_; rintro e wS hS; obtain ⟨rfl, hp⟩ := hS.1 hh; have hpk := hp.kp; try rw [hd])))
   go_wp2
   go_ret
   exact ⟨rfl, hp.before hb (Kp.nb hbN)⟩
 ·have e1 : x.swp σ first = (σ, 5) := by unfold TL.swp; rw [if_neg hh]
  rw [e1]
  clear e1
  ·skip
   go_enter Tryz.func222, Tryz.ntmps222
   go_wp2
   go_region_held3 (fun w' => w'.cell? ⟨t, 4, none⟩ = some (.int .i64 x.at_) ∧ w'.cell? ⟨t, 6, none⟩ = some (.int .u64 x.w))
    (first | exact ⟨c4, c6⟩ | exact ⟨keep_cell hbN c4, keep_cell hbN c6⟩ | exact ⟨hpk.cell (keep_cell hbN c4) (fun e => e), hpk.cell (keep_cell hbN c6) (fun e => e)⟩)
    ((first | (go_at_call 224; refine (hnx _).mono ?_; rintro e wN ⟨rfl, hbN'⟩; have hbN := undrew hbN') | (go_at_call 223; refine (mem_swap _ b σ (hb.same (Kp.nb hbN)) hfn x.at_ x.w _ hv).mono ?_; rintro e wS hS; obtain ⟨rfl, hpk⟩ := hS.2 hh)))
   go_wp2
   go_ret
   exact ⟨rfl, b.nv, hb.same ((Kp.nb hbN).comp hpk (fun _ _ e => e)), fun k h => .inl h, ((Kp.nb hbN).comp hpk (fun _ _ e => e)).mono (fun _ e => e.elim)⟩
end Go.Proofs.YtgdoeoackhfikaaGreatDoor

namespace Go.Proofs.YtgdoeoackhfikaaGreatDoor
open Go.RowKit Go.Proofs.YtgdoeoackhfikaaGreatDoorW.PrintWords
set_option maxRecDepth 100000
set_option maxHeartbeats 4000000
set_option linter.unusedSimpArgs false
set_option linter.unusedVariables false
attribute [local go_sem] hs_other hs_alloc hs_falloc run_store_func run_makeFunc
attribute [local go_sem ↓] Go.wp_at_zero Go.wp_at_succ
def PhaseSays (w : World) (b : MB) (F : Nat → Prop) (t : Nat) (y : TL) (σ' : MemS) (s : Int) (e : Ending) (w' : World) : Prop :=
 e = .returned (.int .i64 s) ∧ Post F w b σ' w' (fun W F' => TLAt W F' t y)
theorem MemAt.getI {w : World} {b : MB} {σ : MemS} (h : MemAt w b σ) {a : Int} (ha : σ.has a) : 0 ≤ σ.get a ∧ σ.get a < 18446744073709551616 := by
 obtain ⟨k, rfl⟩ : ∃ k : Nat, a = k := ⟨a.toNat, by unfold MemS.has at ha; omega⟩
 exact h.getr (by unfold MemS.has at ha; omega)
theorem take_head (w : World) (b : MB) (σ : MemS) (hb : MemAt w b σ) (hfn : σ.notes.length < 1000000000) (F : Nat → Prop) (hA : Apart w b F) (t : Nat) (x : TL) (hx : TLAt w F t x) (hn : x.nx = .th) :
  Calls Tryz.prog 215 #[.pointer (some ⟨t, 0, none⟩), .pointer (some ⟨b.m, 0, none⟩)] w (PhaseSays w b F t (x.next σ).1 (x.next σ).2.1 (x.next σ).2.2) := by
 obtain ⟨hF, ⟨fv, ho, hf⟩, hri, hrw, hc, hrn⟩ := hx
 obtain ⟨c, at_, i, ww, nx, st⟩ := x
 simp only at hn hri hrw hc
 subst hn
 have hf' : fv = .func (.func 215) #[.pointer (some ⟨t, 0, none⟩)] #[] := hf
 subst hf'
 have ho1 : w.heap[t]? = some (.cells #[.int .i64 c.nodes, .int .i64 c.slots, .int .i64 c.holders, .int .u32 c.tag, .int .i64 at_, .int .u32 i, .int .u64 ww, .func (.func 215) #[.pointer (some ⟨t, 0, none⟩)] #[], .int .i64 st] 339 (0, 0)) := ho
 have ht : ¬ b.has t := hb.not_has ho1 (by decide) (by decide) (by decide)
 obtain ⟨q, fq, lq⟩ := obj_cells ho1
 have c4 : w.cell? ⟨t, 4, none⟩ = some (.int .i64 at_) := q 4
 clear q fq
 by_cases hh : σ.has at_
 ·have HO := Lib.hid ho1
  clear ho ho1 hf
  go_enter Tryz.func215, Tryz.ntmps215
  go_wp2_with fail
  refine (mem_load _ b σ hb hfn at_).mono ?_
  rintro e w1 hS
  obtain ⟨rfl, hp⟩ := hS.1 hh
  have hpk := hp.kp
  have hO1 := hpk.heap HO.out ht
  obtain ⟨q, fq, lq1⟩ := obj_cells hO1
  have HO1 := Lib.hid hO1
  clear hO1 hS hpk c4
  go_wp2_with fail
  refine (pack_Index _ _).mono ?_
  rintro e w2 ⟨rfl, hb2⟩
  have hO2 := obj_below hb2 HO1.out
  obtain ⟨q2, fq2, lq2⟩ := obj_cells hO2
  have HO2 := Lib.hid hO2
  clear hO2 q fq
  have hzr : 0 ≤ σ.get at_ ∧ σ.get at_ < 18446744073709551616 := hb.getI hh
  have hir : 0 ≤ idxOf (σ.get at_) ∧ idxOf (σ.get at_) < 4294967296 := by unfold idxOf; omega
  by_cases hi0 : idxOf (σ.get at_) = 0
  ·have hz : (idxOf (σ.get at_) == 0) = true := by rw [hi0]; rfl
   have e : TL.next ⟨c, at_, i, ww, .th, st⟩ σ = (⟨c, at_, 0, σ.get at_, .th, st⟩, σ.load at_, 2) := by simp [TL.next, hh, hi0]
   have HE := Lib.hid e
   clear e
   go_wp2_with fail
   go_ret
   rw [HE.out]
   refine ⟨rfl, Post.mk3 hb hA (Kp.refl _ _) hp (((Kp.of_below hb2 _).st (.inl (.inl hF)) 6 _).st (.inl (.inl hF)) 5 _) (fun F' h1 h2 h3 => ⟨h1 _ hF, ⟨_, hp_same _ _ 5 _ (hp_same _ _ 6 _ HO2.out), rfl⟩, by simp, hzr, hc, fun n e => by cases e⟩)⟩
  have hz : (idxOf (σ.get at_) == 0) = false := beq_eq_false_iff_ne.2 hi0
  go_wp2_with fail
  refine wp_world ?_
  intro W hW
  have hOW := hp_same _ _ 5 (.int .u32 (idxOf (σ.get at_))) (hp_same _ _ 6 (.int .u64 (σ.get at_)) HO2.out)
  rw [← hW] at hOW
  have hOW : W.heap[t]? = some (.cells #[.int .i64 c.nodes, .int .i64 c.slots, .int .i64 c.holders, .int .u32 c.tag, .int .i64 at_, .int .u32 (idxOf (σ.get at_)), .int .u64 (σ.get at_), .func (.func 215) #[.pointer (some ⟨t, 0, none⟩)] #[], .int .i64 st] 339 (0, 0)) := hOW
  have hKW : Kp F w1 W := by rw [hW]; exact ((Kp.of_below hb2 _).st (.inl hF) 6 _).st (.inl hF) 5 _
  obtain ⟨q, fq, lq3⟩ := obj_cells hOW
  have c0 : W.cell? ⟨t, 0, none⟩ = some (.int .i64 c.nodes) := q 0
  have c1 : W.cell? ⟨t, 1, none⟩ = some (.int .i64 c.slots) := q 1
  have c2 : W.cell? ⟨t, 2, none⟩ = some (.int .i64 c.holders) := q 2
  have c3 : W.cell? ⟨t, 3, none⟩ = some (.int .u32 c.tag) := q 3
  have c5 : W.cell? ⟨t, 5, none⟩ = some (.int .u32 (idxOf (σ.get at_))) := q 5
  have HOW := Lib.hid hOW
  clear hOW q fq q2 fq2 hW
  have hnx := fun w => layout_Next c w hc (idxOf (σ.get at_)) hir
  unfold LCfg.v at hnx
  go_region_held3 (fun w' => w'.cell? ⟨t, 0, none⟩ = some (.int .i64 c.nodes) ∧ w'.cell? ⟨t, 1, none⟩ = some (.int .i64 c.slots) ∧ w'.cell? ⟨t, 2, none⟩ = some (.int .i64 c.holders) ∧ w'.cell? ⟨t, 3, none⟩ = some (.int .u32 c.tag) ∧ w'.cell? ⟨t, 5, none⟩ = some (.int .u32 (idxOf (σ.get at_))))
   (first | exact ⟨c0, c1, c2, c3, c5⟩ | exact ⟨keep_cell hbN c0, keep_cell hbN c1, keep_cell hbN c2, keep_cell hbN c3, keep_cell hbN c5⟩)
   ((go_at_call 77; refine (hnx _).mono ?_; rintro e wN ⟨rfl, hbN'⟩; have hbN := undrew hbN'))
  have hON := obj_below hbN HOW.out
  obtain ⟨q, fq, lq4⟩ := obj_cells hON
  have HON := Lib.hid hON
  clear hON c0 c1 c2 c3 c5 hnx
  have hKN : Kp F w1 wN := hKW.comp (Kp.of_below hbN (fun _ => False)) (fun _ _ e => e.elim)
  by_cases hneg : c.nextAt (idxOf (σ.get at_)) < 0
  ·have e : TL.next ⟨c, at_, i, ww, .th, st⟩ σ = (⟨c, at_, idxOf (σ.get at_), σ.get at_, .th, st⟩, σ.load at_, 5) := by simp [TL.next, hh, hi0, hneg]
   have HE := Lib.hid e
   clear e
   go_wp2_with fail
   go_ret
   rw [HE.out]
   exact ⟨rfl, Post.mk3 hb hA (Kp.refl _ _) hp (hKN.mono (fun _ e => .inl e)) (fun F' h1 h2 h3 => ⟨h1 _ hF, ⟨_, HON.out, rfl⟩, hir, hzr, hc, fun n e => by cases e⟩)⟩
  ·have e : TL.next ⟨c, at_, i, ww, .th, st⟩ σ = (⟨c, at_, idxOf (σ.get at_), σ.get at_, .ts, st⟩, σ.load at_, 0) := by simp [TL.next, hh, hi0, hneg]
   have HE := Lib.hid e
   clear e
   go_wp2_with fail
   go_ret
   rw [HE.out]
   exact ⟨rfl, Post.mk3 hb hA (Kp.refl _ _) hp ((hKN.st (.inl hF) 7 _).mono (fun _ e => .inl e)) (fun F' h1 h2 h3 => ⟨h1 _ hF, ⟨_, hp_same _ _ 7 _ HON.out, rfl⟩, hir, hzr, hc, fun n e => by cases e⟩)⟩
 ·have e : TL.next ⟨c, at_, i, ww, .th, st⟩ σ = (⟨c, at_, 0, 0, .th, st⟩, σ, 5) := by simp [TL.next, hh]
  have HE := Lib.hid e
  have HO := Lib.hid ho1
  clear e ho ho1 hf
  go_enter Tryz.func215, Tryz.ntmps215
  go_wp2_with fail
  refine (mem_load _ b σ hb hfn at_).mono ?_
  rintro e w1 hS
  obtain ⟨rfl, hpk⟩ := hS.2 hh
  have hO1 := hpk.heap HO.out (fun e => e)
  obtain ⟨q, fq, lq1⟩ := obj_cells hO1
  have HO1 := Lib.hid hO1
  clear hO1 hS c4
  go_wp2_with fail
  refine (pack_Index _ _).mono ?_
  rintro e w2 ⟨rfl, hb2⟩
  have hO2 := obj_below hb2 HO1.out
  obtain ⟨q2, fq2, lq2⟩ := obj_cells hO2
  have HO2 := Lib.hid hO2
  clear hO2 q fq
  go_wp2_with fail
  go_ret
  rw [HE.out]
  exact ⟨rfl, Post.mk0 hb hA ((((hpk.mono (fun _ e => e.elim)).comp (Kp.of_below hb2 (fun _ => False)) (fun _ _ e => e.elim)).st (.inl hF) 6 _).st (.inl hF) 5 _) (fun F' h1 h2 => ⟨h1 _ hF, ⟨_, hp_same _ _ 5 _ (hp_same _ _ 6 _ HO2.out), rfl⟩, by simp, by simp, hc, fun n e => by cases e⟩)⟩
end Go.Proofs.YtgdoeoackhfikaaGreatDoor

namespace Go.Proofs.YtgdoeoackhfikaaGreatDoor
open Go.RowKit Go.Proofs.YtgdoeoackhfikaaGreatDoorW.PrintWords
set_option maxRecDepth 100000
set_option maxHeartbeats 4000000
set_option linter.unusedSimpArgs false
set_option linter.unusedVariables false
attribute [local go_sem] hs_other hs_alloc hs_falloc run_store_func run_makeFunc
attribute [local go_sem ↓] Go.wp_at_zero Go.wp_at_succ
theorem take_second (w : World) (b : MB) (σ : MemS) (hb : MemAt w b σ) (hfn : σ.notes.length < 1000000000) (F : Nat → Prop) (hA : Apart w b F) (t : Nat) (x : TL) (hx : TLAt w F t x) (hn : x.nx = .ts) :
  Calls Tryz.prog 218 #[.pointer (some ⟨t, 0, none⟩), .pointer (some ⟨b.m, 0, none⟩)] w (PhaseSays w b F t (x.next σ).1 (x.next σ).2.1 (x.next σ).2.2) := by
 obtain ⟨hF, ⟨fv, ho, hf⟩, hri, hrw, hc, hrn⟩ := hx
 obtain ⟨c, at_, i, ww, nx, st⟩ := x
 simp only at hn hri hrw hc
 subst hn
 have hf' : fv = .func (.func 218) #[.pointer (some ⟨t, 0, none⟩)] #[] := hf
 subst hf'
 have ho1 : w.heap[t]? = some (.cells #[.int .i64 c.nodes, .int .i64 c.slots, .int .i64 c.holders, .int .u32 c.tag, .int .i64 at_, .int .u32 i, .int .u64 ww, .func (.func 218) #[.pointer (some ⟨t, 0, none⟩)] #[], .int .i64 st] 339 (0, 0)) := ho
 have ht : ¬ b.has t := hb.not_has ho1 (by decide) (by decide) (by decide)
 obtain ⟨q, fq, lq⟩ := obj_cells ho1
 have HO := Lib.hid ho1
 clear ho ho1 hf q fq
 have hnx := fun w => layout_Next c w hc i hri
 unfold LCfg.v at hnx
 go_enter Tryz.func218, Tryz.ntmps218
 go_wp2_with fail
 refine wp_world ?_
 intro W hW
 have hKW : Kp (fun _ => False) w W := by rw [hW]; exact (Kp.refl _ _).alloc _
 have hBW : W.heap[w.heap.size]? = some (.cells #[.pointer (some ⟨t, 0, none⟩)] 324 (0, 0)) := by rw [hW]; exact hp_new _ _ _ rfl
 have hsz : W.heap.size = w.heap.size + 1 := by rw [hW]; simp
 have hOW := hKW.heap HO.out (fun e => e)
 have hbW := hb.same hKW
 have htB : ¬ b.has w.heap.size := hbW.not_has hBW (by decide) (by decide) (by decide)
 obtain ⟨qb, fb, lb⟩ := obj_cells hBW
 obtain ⟨q, fq, lq2⟩ := obj_cells hOW
 have cb : W.cell? ⟨w.heap.size, 0, none⟩ = some (.pointer (some ⟨t, 0, none⟩)) := qb 0
 have c0 : W.cell? ⟨t, 0, none⟩ = some (.int .i64 c.nodes) := q 0
 have c1 : W.cell? ⟨t, 1, none⟩ = some (.int .i64 c.slots) := q 1
 have c2 : W.cell? ⟨t, 2, none⟩ = some (.int .i64 c.holders) := q 2
 have c3 : W.cell? ⟨t, 3, none⟩ = some (.int .u32 c.tag) := q 3
 have c5 : W.cell? ⟨t, 5, none⟩ = some (.int .u32 i) := q 5
 have hnb : ∀ k, W.heap.size ≤ k → ¬ b.has k := fun k h1 h2 => by have := hbW.lt k h2; omega
 have HSZ := Lib.hid hsz
 have HBW := Lib.hid hBW
 have HOW := Lib.hid hOW
 have HbW := Lib.hid hbW
 clear hW hBW hOW hsz qb fb q fq hbW
 by_cases hh : σ.has (c.nextAt i)
 ·have e : TL.next ⟨c, at_, i, ww, .ts, st⟩ σ = (⟨c, at_, i, ww, .tw (σ.get (c.nextAt i)), st⟩, σ.load (c.nextAt i), 0) := by simp [TL.next, hh]
  have HE := Lib.hid e
  clear e
  go_region_held3 (fun w' => w'.cell? ⟨w.heap.size, 0, none⟩ = some (.pointer (some ⟨t, 0, none⟩)) ∧ w'.cell? ⟨t, 0, none⟩ = some (.int .i64 c.nodes) ∧ w'.cell? ⟨t, 1, none⟩ = some (.int .i64 c.slots) ∧ w'.cell? ⟨t, 2, none⟩ = some (.int .i64 c.holders) ∧ w'.cell? ⟨t, 3, none⟩ = some (.int .u32 c.tag) ∧ w'.cell? ⟨t, 5, none⟩ = some (.int .u32 i))
   (first
    | exact ⟨cb, c0, c1, c2, c3, c5⟩
    | exact ⟨kc _ cb, kc _ c0, kc _ c1, kc _ c2, kc _ c3, kc _ c5⟩
    | exact ⟨Scb, Sc0, Sc1, Sc2, Sc3, Sc5⟩
    | exact ⟨kc _ Scb, kc _ Sc0, kc _ Sc1, kc _ Sc2, kc _ Sc3, kc _ Sc5⟩
    | exact ⟨Ncb, Nc0, Nc1, Nc2, Nc3, Nc5⟩
    | exact ⟨kc _ Ncb, kc _ Nc0, kc _ Nc1, kc _ Nc2, kc _ Nc3, kc _ Nc5⟩
    | exact ⟨ks lb (Nat.le_refl _) Scb, ks lq2 (Nat.le_refl _) Sc0, ks lq2 (Nat.le_refl _) Sc1, ks lq2 (Nat.le_refl _) Sc2, ks lq2 (Nat.le_refl _) Sc3, ks lq2 (Nat.le_refl _) Sc5⟩
    | exact ⟨ks lb hKN.size Scb, ks lq2 hKN.size Sc0, ks lq2 hKN.size Sc1, ks lq2 hKN.size Sc2, ks lq2 hKN.size Sc3, ks lq2 hKN.size Sc5⟩
    | exact ⟨ks lb hKS.size (kc _ Scb), ks lq2 hKS.size (kc _ Sc0), ks lq2 hKS.size (kc _ Sc1), ks lq2 hKS.size (kc _ Sc2), ks lq2 hKS.size (kc _ Sc3), ks lq2 hKS.size (kc _ Sc5)⟩)
   ((first
    | (go_at_call 77; refine (hnx (W.alloc (.cells #[.int .u64 0] 33)).drew).mono ?_; rintro e wN ⟨rfl, hbN'⟩; have hKN : Kp (fun _ => False) W wN := ((Kp.refl _ W).alloc _).drew.comp (Kp.nb hbN') (fun _ _ e => e); have bxN : wN.heap[W.heap.size]? = some (.cells #[.int .u64 0] 33 (0, 0)) := obj_below hbN' (hp_new _ _ _ rfl); have Ncb := hKN.cell cb (fun e => e); have Nc0 := hKN.cell c0 (fun e => e); have Nc1 := hKN.cell c1 (fun e => e); have Nc2 := hKN.cell c2 (fun e => e); have Nc3 := hKN.cell c3 (fun e => e); have Nc5 := hKN.cell c5 (fun e => e))
    | (go_at_call 77; refine (hnx W.drew).mono ?_; rintro e wN ⟨rfl, hbN'⟩; have hKN : Kp (fun _ => False) W wN := Kp.nb (undrew hbN'); have Ncb := hKN.cell cb (fun e => e); have Nc0 := hKN.cell c0 (fun e => e); have Nc1 := hKN.cell c1 (fun e => e); have Nc2 := hKN.cell c2 (fun e => e); have Nc3 := hKN.cell c3 (fun e => e); have Nc5 := hKN.cell c5 (fun e => e))
    | (go_at_call 216; refine (mem_load wN b σ (HbW.out.same hKN) hfn (c.nextAt i)).mono ?_; rintro e wS hS; obtain ⟨rfl, hp⟩ := hS.1 hh; have hKS : Kp b.has W wS := hKN.to hp.kp; have bxS := hp.kp.heap bxN (hnb _ (Nat.le_refl _)); have qx := (obj_cells bxS).1; have fx := (obj_cells bxS).2.1; have Scb := hKS.cell cb htB; have Sc0 := hKS.cell c0 ht; have Sc1 := hKS.cell c1 ht; have Sc2 := hKS.cell c2 ht; have Sc3 := hKS.cell c3 ht; have Sc5 := hKS.cell c5 ht)
    | (go_at_call 216; refine (mem_load wN b σ (HbW.out.same hKN) hfn (c.nextAt i)).mono ?_; rintro e wS hS; obtain ⟨rfl, hp⟩ := hS.1 hh; have hKS : Kp b.has W wS := hKN.to hp.kp; have Scb := hKS.cell cb htB; have Sc0 := hKS.cell c0 ht; have Sc1 := hKS.cell c1 ht; have Sc2 := hKS.cell c2 ht; have Sc3 := hKS.cell c3 ht; have Sc5 := hKS.cell c5 ht)
    | (go_at_call 216; refine (mem_load (wN.alloc (.cells #[.int .u64 0] 33)) b σ (HbW.out.same (hKN.alloc _)) hfn (c.nextAt i)).mono ?_; rintro e wS hS; obtain ⟨rfl, hp⟩ := hS.1 hh; have hKS : Kp b.has W wS := (hKN.alloc _).to hp.kp; have bxS := hp.kp.heap (hp_new wN (.cells #[.int .u64 0] 33) wN.heap.size rfl) (hnb _ hKN.size); have qx := (obj_cells bxS).1; have fx := (obj_cells bxS).2.1; have Scb := hKS.cell cb htB; have Sc0 := hKS.cell c0 ht; have Sc1 := hKS.cell c1 ht; have Sc2 := hKS.cell c2 ht; have Sc3 := hKS.cell c3 ht; have Sc5 := hKS.cell c5 ht)))
  ·have hOS := hKS.heap HOW.out ht
   have hBS := hKS.heap HBW.out htB
   have sN := hKN.size
   have sS := hKS.size
   have sW1 : W.heap.size ≤ w.heap.size + 1 := Nat.le_of_eq HSZ.out
   have sW2 : w.heap.size + 1 ≤ W.heap.size := Nat.le_of_eq HSZ.out.symm
   have sp := hp.kp.size
   skip
   refine any_world (p := fun V => Exit.then _ _ _ _ V) ?_
   intro V hV
   have hOV : V.heap[t]? = some (.cells #[.int .i64 c.nodes, .int .i64 c.slots, .int .i64 c.holders, .int .u32 c.tag, .int .i64 at_, .int .u32 i, .int .u64 ww, .func (.func 218) #[.pointer (some ⟨t, 0, none⟩)] #[], .int .i64 st] 339 (0, 0)) := by rw [hV]; exact (hp_alloc _ _ _ (lt_of_heap hOS)).trans hOS
   have hBV : V.heap[w.heap.size]? = some (.cells #[.pointer (some ⟨t, 0, none⟩)] 324 (0, 0)) := by rw [hV]; exact (hp_alloc _ _ _ (lt_of_heap hBS)).trans hBS
   have hXV : V.heap[wS.heap.size]? = some (.cells #[.int .u64 (σ.get (c.nextAt i))] 33 (0, 0)) := by rw [hV]; exact hp_new _ _ _ rfl
   have hKV : Kp (fun k => F k ∨ (w.heap.size ≤ k ∧ k < wN.heap.size)) wS V := by rw [hV]; exact (Kp.refl _ wS).alloc _
   have hlV : wS.heap.size < V.heap.size := lt_of_heap hXV
   obtain ⟨qb, fb, lb2⟩ := obj_cells hBV
   obtain ⟨q, fq, lq3⟩ := obj_cells hOV
   have HOV := Lib.hid hOV
   have HBV := Lib.hid hBV
   have HXV := Lib.hid hXV
   have HKV := Lib.hid hKV
   clear hV hOV hBV hXV hKV hOS hBS cb c0 c1 c2 c3 c5 Ncb Nc0 Nc1 Nc2 Nc3 Nc5 Scb Sc0 Sc1 Sc2 Sc3 Sc5
   go_wp2_with fail
   go_ret
   rw [HE.out]
   exact ⟨rfl, Post.mk3 hb hA (hKW.comp hKN (fun _ _ e => e)) hp (HKV.out.st (.inl (.inl hF)) 7 _) (fun F' h1 h2 h3 => ⟨h1 _ hF, ⟨_, hp_same _ _ 7 _ HOV.out, ⟨w.heap.size, wS.heap.size, h2 _ (Nat.le_refl _) (by omega), h3 _ (Nat.le_refl _) (by simp; omega), rfl, (hp_other _ ⟨t, 7, none⟩ _ _ (by show w.heap.size ≠ t; omega)).trans HBV.out, (hp_other _ ⟨t, 7, none⟩ _ _ (by show wS.heap.size ≠ t; omega)).trans HXV.out⟩⟩, hri, hrw, hc, fun n e => by cases e; exact hb.getI hh⟩)⟩
  ·have hOS := hKS.heap HOW.out ht
   have hBS := hKS.heap HBW.out htB
   have sN := hKN.size
   have sS := hKS.size
   have sW1 : W.heap.size ≤ w.heap.size + 1 := Nat.le_of_eq HSZ.out
   have sW2 : w.heap.size + 1 ≤ W.heap.size := Nat.le_of_eq HSZ.out.symm
   have sp := hp.kp.size
   skip
   refine any_world (p := fun V => Exit.then _ _ _ _ V) ?_
   intro V hV
   have hOV : V.heap[t]? = some (.cells #[.int .i64 c.nodes, .int .i64 c.slots, .int .i64 c.holders, .int .u32 c.tag, .int .i64 at_, .int .u32 i, .int .u64 ww, .func (.func 218) #[.pointer (some ⟨t, 0, none⟩)] #[], .int .i64 st] 339 (0, 0)) := by rw [hV]; exact (hp_other _ ⟨wN.heap.size, 0, none⟩ _ _ (by show t ≠ wN.heap.size; omega)).trans hOS
   have hBV : V.heap[w.heap.size]? = some (.cells #[.pointer (some ⟨t, 0, none⟩)] 324 (0, 0)) := by rw [hV]; exact (hp_other _ ⟨wN.heap.size, 0, none⟩ _ _ (by show w.heap.size ≠ wN.heap.size; omega)).trans hBS
   have hXV : V.heap[wN.heap.size]? = some (.cells #[.int .u64 (σ.get (c.nextAt i))] 33 (0, 0)) := by rw [hV]; exact hp_same _ _ 0 _ bxS
   have hKV : Kp (fun k => F k ∨ (w.heap.size ≤ k ∧ k < (wN.alloc (.cells #[.int .u64 0] 33)).heap.size)) wS V := by rw [hV]; exact Kp.st (Kp.refl _ _) (.inl (.inr ⟨by omega, by simp⟩)) 0 _
   have hlV : wN.heap.size < V.heap.size := lt_of_heap hXV
   obtain ⟨qb, fb, lb2⟩ := obj_cells hBV
   obtain ⟨q, fq, lq3⟩ := obj_cells hOV
   have HOV := Lib.hid hOV
   have HBV := Lib.hid hBV
   have HXV := Lib.hid hXV
   have HKV := Lib.hid hKV
   clear hV hOV hBV hXV hKV hOS hBS cb c0 c1 c2 c3 c5 Ncb Nc0 Nc1 Nc2 Nc3 Nc5 Scb Sc0 Sc1 Sc2 Sc3 Sc5
   go_wp2_with fail
   go_ret
   rw [HE.out]
   exact ⟨rfl, Post.mk3 hb hA (hKW.comp (hKN.alloc _) (fun _ _ e => e)) hp (HKV.out.st (.inl (.inl hF)) 7 _) (fun F' h1 h2 h3 => ⟨h1 _ hF, ⟨_, hp_same _ _ 7 _ HOV.out, ⟨w.heap.size, wN.heap.size, h2 _ (Nat.le_refl _) (by simp; omega), h2 _ (by omega) (by simp), rfl, (hp_other _ ⟨t, 7, none⟩ _ _ (by show w.heap.size ≠ t; omega)).trans HBV.out, (hp_other _ ⟨t, 7, none⟩ _ _ (by show wN.heap.size ≠ t; omega)).trans HXV.out⟩⟩, hri, hrw, hc, fun n e => by cases e; exact hb.getI hh⟩)⟩
  ·have hOS := hKS.heap HOW.out ht
   have hBS := hKS.heap HBW.out htB
   have sN := hKN.size
   have sS := hKS.size
   have sW1 : W.heap.size ≤ w.heap.size + 1 := Nat.le_of_eq HSZ.out
   have sW2 : w.heap.size + 1 ≤ W.heap.size := Nat.le_of_eq HSZ.out.symm
   have sp := hp.kp.size
   have lbx := lt_of_heap bxN
   refine any_world (p := fun V => Exit.then _ _ _ _ V) ?_
   intro V hV
   have hOV : V.heap[t]? = some (.cells #[.int .i64 c.nodes, .int .i64 c.slots, .int .i64 c.holders, .int .u32 c.tag, .int .i64 at_, .int .u32 i, .int .u64 ww, .func (.func 218) #[.pointer (some ⟨t, 0, none⟩)] #[], .int .i64 st] 339 (0, 0)) := by rw [hV]; exact (hp_other _ ⟨W.heap.size, 0, none⟩ _ _ (by show t ≠ W.heap.size; omega)).trans hOS
   have hBV : V.heap[w.heap.size]? = some (.cells #[.pointer (some ⟨t, 0, none⟩)] 324 (0, 0)) := by rw [hV]; exact (hp_other _ ⟨W.heap.size, 0, none⟩ _ _ (by show w.heap.size ≠ W.heap.size; omega)).trans hBS
   have hXV : V.heap[W.heap.size]? = some (.cells #[.int .u64 (σ.get (c.nextAt i))] 33 (0, 0)) := by rw [hV]; exact hp_same _ _ 0 _ bxS
   have hKV : Kp (fun k => F k ∨ (w.heap.size ≤ k ∧ k < wN.heap.size)) wS V := by rw [hV]; exact Kp.st (Kp.refl _ _) (.inl (.inr ⟨by omega, by omega⟩)) 0 _
   have hlV : W.heap.size < V.heap.size := lt_of_heap hXV
   obtain ⟨qb, fb, lb2⟩ := obj_cells hBV
   obtain ⟨q, fq, lq3⟩ := obj_cells hOV
   have HOV := Lib.hid hOV
   have HBV := Lib.hid hBV
   have HXV := Lib.hid hXV
   have HKV := Lib.hid hKV
   clear hV hOV hBV hXV hKV hOS hBS cb c0 c1 c2 c3 c5 Ncb Nc0 Nc1 Nc2 Nc3 Nc5 Scb Sc0 Sc1 Sc2 Sc3 Sc5
   go_wp2_with fail
   go_ret
   rw [HE.out]
   exact ⟨rfl, Post.mk3 hb hA (hKW.comp hKN (fun _ _ e => e)) hp (HKV.out.st (.inl (.inl hF)) 7 _) (fun F' h1 h2 h3 => ⟨h1 _ hF, ⟨_, hp_same _ _ 7 _ HOV.out, ⟨w.heap.size, W.heap.size, h2 _ (Nat.le_refl _) (by omega), h2 _ (by omega) (by omega), rfl, (hp_other _ ⟨t, 7, none⟩ _ _ (by show w.heap.size ≠ t; omega)).trans HBV.out, (hp_other _ ⟨t, 7, none⟩ _ _ (by show W.heap.size ≠ t; omega)).trans HXV.out⟩⟩, hri, hrw, hc, fun n e => by cases e; exact hb.getI hh⟩)⟩
 ·have e : TL.next ⟨c, at_, i, ww, .ts, st⟩ σ = (⟨c, at_, i, ww, .ts, st⟩, σ, 5) := by simp [TL.next, hh]
  have HE := Lib.hid e
  clear e
  go_region_held3 (fun w' => w'.cell? ⟨w.heap.size, 0, none⟩ = some (.pointer (some ⟨t, 0, none⟩)) ∧ w'.cell? ⟨t, 0, none⟩ = some (.int .i64 c.nodes) ∧ w'.cell? ⟨t, 1, none⟩ = some (.int .i64 c.slots) ∧ w'.cell? ⟨t, 2, none⟩ = some (.int .i64 c.holders) ∧ w'.cell? ⟨t, 3, none⟩ = some (.int .u32 c.tag) ∧ w'.cell? ⟨t, 5, none⟩ = some (.int .u32 i))
   (first
    | exact ⟨cb, c0, c1, c2, c3, c5⟩
    | exact ⟨kc _ cb, kc _ c0, kc _ c1, kc _ c2, kc _ c3, kc _ c5⟩
    | exact ⟨Scb, Sc0, Sc1, Sc2, Sc3, Sc5⟩
    | exact ⟨kc _ Scb, kc _ Sc0, kc _ Sc1, kc _ Sc2, kc _ Sc3, kc _ Sc5⟩
    | exact ⟨Ncb, Nc0, Nc1, Nc2, Nc3, Nc5⟩
    | exact ⟨kc _ Ncb, kc _ Nc0, kc _ Nc1, kc _ Nc2, kc _ Nc3, kc _ Nc5⟩
    | exact ⟨ks lb (Nat.le_refl _) Scb, ks lq2 (Nat.le_refl _) Sc0, ks lq2 (Nat.le_refl _) Sc1, ks lq2 (Nat.le_refl _) Sc2, ks lq2 (Nat.le_refl _) Sc3, ks lq2 (Nat.le_refl _) Sc5⟩
    | exact ⟨ks lb hKN.size Scb, ks lq2 hKN.size Sc0, ks lq2 hKN.size Sc1, ks lq2 hKN.size Sc2, ks lq2 hKN.size Sc3, ks lq2 hKN.size Sc5⟩
    | exact ⟨ks lb hKS.size (kc _ Scb), ks lq2 hKS.size (kc _ Sc0), ks lq2 hKS.size (kc _ Sc1), ks lq2 hKS.size (kc _ Sc2), ks lq2 hKS.size (kc _ Sc3), ks lq2 hKS.size (kc _ Sc5)⟩)
   ((first
    | (go_at_call 77; refine (hnx (W.alloc (.cells #[.int .u64 0] 33)).drew).mono ?_; rintro e wN ⟨rfl, hbN'⟩; have hKN : Kp (fun _ => False) W wN := ((Kp.refl _ W).alloc _).drew.comp (Kp.nb hbN') (fun _ _ e => e); have bxN : wN.heap[W.heap.size]? = some (.cells #[.int .u64 0] 33 (0, 0)) := obj_below hbN' (hp_new _ _ _ rfl); have Ncb := hKN.cell cb (fun e => e); have Nc0 := hKN.cell c0 (fun e => e); have Nc1 := hKN.cell c1 (fun e => e); have Nc2 := hKN.cell c2 (fun e => e); have Nc3 := hKN.cell c3 (fun e => e); have Nc5 := hKN.cell c5 (fun e => e))
    | (go_at_call 77; refine (hnx W.drew).mono ?_; rintro e wN ⟨rfl, hbN'⟩; have hKN : Kp (fun _ => False) W wN := Kp.nb (undrew hbN'); have Ncb := hKN.cell cb (fun e => e); have Nc0 := hKN.cell c0 (fun e => e); have Nc1 := hKN.cell c1 (fun e => e); have Nc2 := hKN.cell c2 (fun e => e); have Nc3 := hKN.cell c3 (fun e => e); have Nc5 := hKN.cell c5 (fun e => e))
    | (go_at_call 216; refine (mem_load wN b σ (HbW.out.same hKN) hfn (c.nextAt i)).mono ?_; rintro e wS hS; obtain ⟨rfl, hpk⟩ := hS.2 hh; have hKS : Kp (fun _ => False) W wS := hKN.to hpk; have bxS := hpk.heap bxN (fun e => e); have qx := (obj_cells bxS).1; have fx := (obj_cells bxS).2.1; have Scb := hKS.cell cb (fun e => e); have Sc0 := hKS.cell c0 (fun e => e); have Sc1 := hKS.cell c1 (fun e => e); have Sc2 := hKS.cell c2 (fun e => e); have Sc3 := hKS.cell c3 (fun e => e); have Sc5 := hKS.cell c5 (fun e => e))
    | (go_at_call 216; refine (mem_load wN b σ (HbW.out.same hKN) hfn (c.nextAt i)).mono ?_; rintro e wS hS; obtain ⟨rfl, hpk⟩ := hS.2 hh; have hKS : Kp (fun _ => False) W wS := hKN.to hpk; have Scb := hKS.cell cb (fun e => e); have Sc0 := hKS.cell c0 (fun e => e); have Sc1 := hKS.cell c1 (fun e => e); have Sc2 := hKS.cell c2 (fun e => e); have Sc3 := hKS.cell c3 (fun e => e); have Sc5 := hKS.cell c5 (fun e => e))
    | (go_at_call 216; refine (mem_load (wN.alloc (.cells #[.int .u64 0] 33)) b σ (HbW.out.same (hKN.alloc _)) hfn (c.nextAt i)).mono ?_; rintro e wS hS; obtain ⟨rfl, hpk⟩ := hS.2 hh; have hKS : Kp (fun _ => False) W wS := (hKN.alloc _).to hpk; have bxS := hpk.heap (hp_new wN (.cells #[.int .u64 0] 33) wN.heap.size rfl) (fun e => e); have qx := (obj_cells bxS).1; have fx := (obj_cells bxS).2.1; have Scb := hKS.cell cb (fun e => e); have Sc0 := hKS.cell c0 (fun e => e); have Sc1 := hKS.cell c1 (fun e => e); have Sc2 := hKS.cell c2 (fun e => e); have Sc3 := hKS.cell c3 (fun e => e); have Sc5 := hKS.cell c5 (fun e => e))))
  ·have hOS := hKS.heap HOW.out (fun e => e)
   have hBS := hKS.heap HBW.out (fun e => e)
   have sN := hKN.size
   have sS := hKS.size
   have sW1 : W.heap.size ≤ w.heap.size + 1 := Nat.le_of_eq HSZ.out
   have sW2 : w.heap.size + 1 ≤ W.heap.size := Nat.le_of_eq HSZ.out.symm
   have sp := hpk.size
   skip
   refine any_world (p := fun V => Exit.then _ _ _ _ V) ?_
   intro V hV
   have hOV : V.heap[t]? = some (.cells #[.int .i64 c.nodes, .int .i64 c.slots, .int .i64 c.holders, .int .u32 c.tag, .int .i64 at_, .int .u32 i, .int .u64 ww, .func (.func 218) #[.pointer (some ⟨t, 0, none⟩)] #[], .int .i64 st] 339 (0, 0)) := by rw [hV]; exact (hp_alloc _ _ _ (lt_of_heap hOS)).trans hOS
   have hBV : V.heap[w.heap.size]? = some (.cells #[.pointer (some ⟨t, 0, none⟩)] 324 (0, 0)) := by rw [hV]; exact (hp_alloc _ _ _ (lt_of_heap hBS)).trans hBS
   have hXV : V.heap[wS.heap.size]? = some (.cells #[.int .u64 0] 33 (0, 0)) := by rw [hV]; exact hp_new _ _ _ rfl
   have hKV : Kp (fun _ => False) w V := by rw [hV]; exact hKW.comp (hKS.alloc _) (fun _ _ e => e)
   have hlV : wS.heap.size < V.heap.size := lt_of_heap hXV
   obtain ⟨qb, fb, lb2⟩ := obj_cells hBV
   obtain ⟨q, fq, lq3⟩ := obj_cells hOV
   have HOV := Lib.hid hOV
   have HBV := Lib.hid hBV
   have HXV := Lib.hid hXV
   have HKV := Lib.hid hKV
   clear hV hOV hBV hXV hKV hOS hBS cb c0 c1 c2 c3 c5 Ncb Nc0 Nc1 Nc2 Nc3 Nc5 Scb Sc0 Sc1 Sc2 Sc3 Sc5
   go_wp2_with fail
   go_ret
   rw [HE.out]
   exact ⟨rfl, Post.mk0 hb hA (HKV.out.mono (fun _ e => e.elim)) (fun F' h1 h2 => ⟨h1 _ hF, ⟨_, HOV.out, rfl⟩, hri, hrw, hc, fun n e => by cases e⟩)⟩
  ·have hOS := hKS.heap HOW.out (fun e => e)
   have hBS := hKS.heap HBW.out (fun e => e)
   have sN := hKN.size
   have sS := hKS.size
   have sW1 : W.heap.size ≤ w.heap.size + 1 := Nat.le_of_eq HSZ.out
   have sW2 : w.heap.size + 1 ≤ W.heap.size := Nat.le_of_eq HSZ.out.symm
   have sp := hpk.size
   skip
   refine any_world (p := fun V => Exit.then _ _ _ _ V) ?_
   intro V hV
   have hOV : V.heap[t]? = some (.cells #[.int .i64 c.nodes, .int .i64 c.slots, .int .i64 c.holders, .int .u32 c.tag, .int .i64 at_, .int .u32 i, .int .u64 ww, .func (.func 218) #[.pointer (some ⟨t, 0, none⟩)] #[], .int .i64 st] 339 (0, 0)) := by rw [hV]; exact (hp_other _ ⟨wN.heap.size, 0, none⟩ _ _ (by show t ≠ wN.heap.size; omega)).trans hOS
   have hBV : V.heap[w.heap.size]? = some (.cells #[.pointer (some ⟨t, 0, none⟩)] 324 (0, 0)) := by rw [hV]; exact (hp_other _ ⟨wN.heap.size, 0, none⟩ _ _ (by show w.heap.size ≠ wN.heap.size; omega)).trans hBS
   have hXV : V.heap[wN.heap.size]? = some (.cells #[.int .u64 0] 33 (0, 0)) := by rw [hV]; exact hp_same _ _ 0 _ bxS
   have hKV : Kp (fun _ => False) w V := by rw [hV]; exact hKW.comp (Kp.new hKS (by omega) 0 _) (fun _ _ e => e)
   have hlV : wN.heap.size < V.heap.size := lt_of_heap hXV
   obtain ⟨qb, fb, lb2⟩ := obj_cells hBV
   obtain ⟨q, fq, lq3⟩ := obj_cells hOV
   have HOV := Lib.hid hOV
   have HBV := Lib.hid hBV
   have HXV := Lib.hid hXV
   have HKV := Lib.hid hKV
   clear hV hOV hBV hXV hKV hOS hBS cb c0 c1 c2 c3 c5 Ncb Nc0 Nc1 Nc2 Nc3 Nc5 Scb Sc0 Sc1 Sc2 Sc3 Sc5
   go_wp2_with fail
   go_ret
   rw [HE.out]
   exact ⟨rfl, Post.mk0 hb hA (HKV.out.mono (fun _ e => e.elim)) (fun F' h1 h2 => ⟨h1 _ hF, ⟨_, HOV.out, rfl⟩, hri, hrw, hc, fun n e => by cases e⟩)⟩
  ·have hOS := hKS.heap HOW.out (fun e => e)
   have hBS := hKS.heap HBW.out (fun e => e)
   have sN := hKN.size
   have sS := hKS.size
   have sW1 : W.heap.size ≤ w.heap.size + 1 := Nat.le_of_eq HSZ.out
   have sW2 : w.heap.size + 1 ≤ W.heap.size := Nat.le_of_eq HSZ.out.symm
   have sp := hpk.size
   have lbx := lt_of_heap bxN
   refine any_world (p := fun V => Exit.then _ _ _ _ V) ?_
   intro V hV
   have hOV : V.heap[t]? = some (.cells #[.int .i64 c.nodes, .int .i64 c.slots, .int .i64 c.holders, .int .u32 c.tag, .int .i64 at_, .int .u32 i, .int .u64 ww, .func (.func 218) #[.pointer (some ⟨t, 0, none⟩)] #[], .int .i64 st] 339 (0, 0)) := by rw [hV]; exact (hp_other _ ⟨W.heap.size, 0, none⟩ _ _ (by show t ≠ W.heap.size; omega)).trans hOS
   have hBV : V.heap[w.heap.size]? = some (.cells #[.pointer (some ⟨t, 0, none⟩)] 324 (0, 0)) := by rw [hV]; exact (hp_other _ ⟨W.heap.size, 0, none⟩ _ _ (by show w.heap.size ≠ W.heap.size; omega)).trans hBS
   have hXV : V.heap[W.heap.size]? = some (.cells #[.int .u64 0] 33 (0, 0)) := by rw [hV]; exact hp_same _ _ 0 _ bxS
   have hKV : Kp (fun _ => False) w V := by rw [hV]; exact hKW.comp (Kp.new hKS (by omega) 0 _) (fun _ _ e => e)
   have hlV : W.heap.size < V.heap.size := lt_of_heap hXV
   obtain ⟨qb, fb, lb2⟩ := obj_cells hBV
   obtain ⟨q, fq, lq3⟩ := obj_cells hOV
   have HOV := Lib.hid hOV
   have HBV := Lib.hid hBV
   have HXV := Lib.hid hXV
   have HKV := Lib.hid hKV
   clear hV hOV hBV hXV hKV hOS hBS cb c0 c1 c2 c3 c5 Ncb Nc0 Nc1 Nc2 Nc3 Nc5 Scb Sc0 Sc1 Sc2 Sc3 Sc5
   go_wp2_with fail
   go_ret
   rw [HE.out]
   exact ⟨rfl, Post.mk0 hb hA (HKV.out.mono (fun _ e => e.elim)) (fun F' h1 h2 => ⟨h1 _ hF, ⟨_, HOV.out, rfl⟩, hri, hrw, hc, fun n e => by cases e⟩)⟩
end Go.Proofs.YtgdoeoackhfikaaGreatDoor

namespace Go.Proofs.YtgdoeoackhfikaaGreatDoor
open Go.RowKit Go.Proofs.YtgdoeoackhfikaaGreatDoorW.PrintWords
set_option maxRecDepth 100000
set_option maxHeartbeats 4000000
set_option linter.unusedSimpArgs false
set_option linter.unusedVariables false
attribute [local go_sem] hs_other hs_alloc hs_falloc run_store_func run_makeFunc
attribute [local go_sem ↓] Go.wp_at_zero Go.wp_at_succ
theorem take_third (w : World) (b : MB) (σ : MemS) (hb : MemAt w b σ) (hfn : σ.notes.length < 1000000000) (F : Nat → Prop) (hA : Apart w b F) (t : Nat) (x : TL) (hx : TLAt w F t x) (n : Int) (hn : x.nx = .tw n) (bt bn : Nat) (hFn : F bn)
  (hbt : w.heap[bt]? = some (.cells #[.pointer (some ⟨t, 0, none⟩)] 324 (0, 0))) (hbn : w.heap[bn]? = some (.cells #[.int .u64 n] 33 (0, 0))) :
  Calls Tryz.prog 221 #[.pointer (some ⟨b.m, 0, none⟩), .pointer (some ⟨bt, 0, none⟩), .pointer (some ⟨bn, 0, none⟩)] w (PhaseSays w b F t (x.next σ).1 (x.next σ).2.1 (x.next σ).2.2) := by
 have hx0 := hx
 obtain ⟨hF, ⟨fv, ho, hf⟩, hri, hrw, hc, hrn⟩ := hx
 have hfi : 0 ≤ idxOf n ∧ idxOf n < 4294967296 := by unfold idxOf; omega
 have htb : ¬ b.has bt := hb.not_has hbt (by decide) (by decide) (by decide)
 have htn : ¬ b.has bn := hA.ne bn hFn
 have e : TL.next x σ = (x, x.swp σ (idxOf n)) := by simp [TL.next, hn]
 have HE := Lib.hid e
 obtain ⟨qt, _, lt⟩ := obj_cells hbt
 obtain ⟨qn, _, ln⟩ := obj_cells hbn
 have ct : w.cell? ⟨bt, 0, none⟩ = some (.pointer (some ⟨t, 0, none⟩)) := qt 0
 have cn : w.cell? ⟨bn, 0, none⟩ = some (.int .u64 n) := qn 0
 have HO := Lib.hid ho
 clear qt qn e ho hf hbt hbn hn
 go_enter Tryz.func221, Tryz.ntmps221
 go_wp2
 go_region_held3 (fun w' => w'.cell? ⟨bt, 0, none⟩ = some (.pointer (some ⟨t, 0, none⟩)) ∧ w'.cell? ⟨bn, 0, none⟩ = some (.int .u64 n))
  (first | exact ⟨ct, cn⟩ | exact ⟨keep_cell hbI ct, keep_cell hbI cn⟩ | exact ⟨hpS.kp.cell (keep_cell hbI ct) htb, hpS.kp.cell (keep_cell hbI cn) htn⟩)
  ((first
   | (go_at_call 217; refine (pack_Index n _).mono ?_; rintro e wI ⟨rfl, hbI'⟩; have hbI := undrew hbI')
   | (go_at_call 222; refine (taglist_swap wI b σ (hb.same (Kp.nb hbI)) hfn t x fv (obj_below hbI HO.out) (idxOf n) hfi hrw).mono ?_; rintro e wS ⟨rfl, hpS⟩)))
 go_wp2
 go_ret
 rw [HE.out]
 have hpw := hpS.before hb (Kp.nb hbI)
 exact ⟨rfl, Post.mk3 hb hA (Kp.refl _ _) hpw (Kp.refl _ _) (fun F' h1 h2 h3 => hx0.kept (fun k o hk ho => hpw.kp.heap ho (hA.ne k hk)) h1)⟩
end Go.Proofs.YtgdoeoackhfikaaGreatDoor

namespace Go.Proofs.YtgdoeoackhfikaaGreatDoor
open Go.RowKit Go.Proofs.YtgdoeoackhfikaaGreatDoorW.PrintWords
set_option maxRecDepth 100000
set_option maxHeartbeats 4000000
set_option linter.unusedSimpArgs false
set_option linter.unusedVariables false
attribute [local go_sem] hs_other hs_alloc hs_falloc run_store_func run_makeFunc
attribute [local go_sem ↓] Go.wp_at_zero Go.wp_at_succ
theorem give_head (w : World) (b : MB) (σ : MemS) (hb : MemAt w b σ) (hfn : σ.notes.length < 1000000000) (F : Nat → Prop) (hA : Apart w b F) (t : Nat) (x : TL) (hx : TLAt w F t x) (hn : x.nx = .gh) :
  Calls Tryz.prog 255 #[.pointer (some ⟨t, 0, none⟩), .pointer (some ⟨b.m, 0, none⟩)] w (PhaseSays w b F t (x.next σ).1 (x.next σ).2.1 (x.next σ).2.2) := by
 obtain ⟨hF, ⟨fv, ho, hf⟩, hri, hrw, hc, hrn⟩ := hx
 obtain ⟨c, at_, i, ww, nx, st⟩ := x
 simp only at hn hri hrw hc
 subst hn
 have hf' : fv = .func (.func 255) #[.pointer (some ⟨t, 0, none⟩)] #[] := hf
 subst hf'
 have ho1 : w.heap[t]? = some (.cells #[.int .i64 c.nodes, .int .i64 c.slots, .int .i64 c.holders, .int .u32 c.tag, .int .i64 at_, .int .u32 i, .int .u64 ww, .func (.func 255) #[.pointer (some ⟨t, 0, none⟩)] #[], .int .i64 st] 387 (0, 0)) := ho
 have ht : ¬ b.has t := hb.not_has ho1 (by decide) (by decide) (by decide)
 obtain ⟨q, fq, lq⟩ := obj_cells ho1
 have c0 : w.cell? ⟨t, 0, none⟩ = some (.int .i64 c.nodes) := q 0
 have c1 : w.cell? ⟨t, 1, none⟩ = some (.int .i64 c.slots) := q 1
 have c2 : w.cell? ⟨t, 2, none⟩ = some (.int .i64 c.holders) := q 2
 have c3 : w.cell? ⟨t, 3, none⟩ = some (.int .u32 c.tag) := q 3
 have c5 : w.cell? ⟨t, 5, none⟩ = some (.int .u32 i) := q 5
 have hnx := fun w => layout_Next c w hc i hri
 unfold LCfg.v at hnx
 have HO := Lib.hid ho1
 clear ho ho1 hf q fq
 go_enter Tryz.func255, Tryz.ntmps255
 go_wp2
 go_region_held3 (fun w' => w'.cell? ⟨t, 0, none⟩ = some (.int .i64 c.nodes) ∧ w'.cell? ⟨t, 1, none⟩ = some (.int .i64 c.slots) ∧ w'.cell? ⟨t, 2, none⟩ = some (.int .i64 c.holders) ∧ w'.cell? ⟨t, 3, none⟩ = some (.int .u32 c.tag) ∧ w'.cell? ⟨t, 5, none⟩ = some (.int .u32 i))
  (first | exact ⟨c0, c1, c2, c3, c5⟩ | exact ⟨keep_cell hbN c0, keep_cell hbN c1, keep_cell hbN c2, keep_cell hbN c3, keep_cell hbN c5⟩)
  ((go_at_call 77; refine (hnx _).mono ?_; rintro e wN ⟨rfl, hbN'⟩; have hbN := undrew hbN'))
 have hON := obj_below hbN HO.out
 have hbm := hb.same (Kp.nb hbN)
 obtain ⟨q, fq, lqN⟩ := obj_cells hON
 have HON := Lib.hid hON
 have HBM := Lib.hid hbm
 clear hON c0 c1 c2 c3 c5 hnx hbm
 by_cases hneg : c.nextAt i < 0
 ·have e : TL.next ⟨c, at_, i, ww, .gh, st⟩ σ = (⟨c, at_, i, ww, .gh, st⟩, σ, 5) := by simp [TL.next, hneg]
  have HE := Lib.hid e
  clear e
  go_wp2_with fail
  go_ret
  rw [HE.out]
  exact ⟨rfl, Post.mk0 hb hA ((Kp.nb hbN).mono (fun _ e => e.elim)) (fun F' h1 h2 => ⟨h1 _ hF, ⟨_, HON.out, rfl⟩, hri, hrw, hc, fun n e => by cases e⟩)⟩
 by_cases hh : σ.has at_
 ·have e : TL.next ⟨c, at_, i, ww, .gh, st⟩ σ = (⟨c, at_, i, σ.get at_, .gs, st⟩, σ.load at_, 0) := by simp [TL.next, hneg, hh]
  have HE := Lib.hid e
  have hzr : 0 ≤ σ.get at_ ∧ σ.get at_ < 18446744073709551616 := hb.getI hh
  clear e
  go_wp2_with fail
  refine (mem_load _ b σ HBM.out hfn at_).mono ?_
  rintro e wS hS
  obtain ⟨rfl, hp⟩ := hS.1 hh
  have hOS := hp.kp.heap HON.out ht
  obtain ⟨q2, fq2, lq2⟩ := obj_cells hOS
  have HOS := Lib.hid hOS
  clear hOS hS q fq
  go_wp2_with fail
  go_ret
  rw [HE.out]
  exact ⟨rfl, Post.mk3 hb hA (Kp.nb hbN) hp (Kp.st (Kp.st (Kp.refl _ _) (.inl (.inl hF)) 6 _) (.inl (.inl hF)) 7 _) (fun F' h1 h2 h3 => ⟨h1 _ hF, ⟨_, hp_same _ _ 7 _ (hp_same _ _ 6 _ HOS.out), rfl⟩, hri, hzr, hc, fun n e => by cases e⟩)⟩
 ·have e : TL.next ⟨c, at_, i, ww, .gh, st⟩ σ = (⟨c, at_, i, ww, .gh, st⟩, σ, 5) := by simp [TL.next, hneg, hh]
  have HE := Lib.hid e
  clear e
  go_wp2_with fail
  refine (mem_load _ b σ HBM.out hfn at_).mono ?_
  rintro e wS hS
  obtain ⟨rfl, hpk⟩ := hS.2 hh
  have hOS := hpk.heap HON.out (fun e => e)
  obtain ⟨q2, fq2, lq2⟩ := obj_cells hOS
  have HOS := Lib.hid hOS
  clear hOS hS q fq
  go_wp2_with fail
  go_ret
  rw [HE.out]
  exact ⟨rfl, Post.mk0 hb hA (((Kp.nb hbN).comp hpk (fun _ _ e => e)).mono (fun _ e => e.elim)) (fun F' h1 h2 => ⟨h1 _ hF, ⟨_, HOS.out, rfl⟩, hri, hrw, hc, fun n e => by cases e⟩)⟩
theorem give_third (w : World) (b : MB) (σ : MemS) (hb : MemAt w b σ) (hfn : σ.notes.length < 1000000000) (F : Nat → Prop) (hA : Apart w b F) (t : Nat) (x : TL) (hx : TLAt w F t x) (hn : x.nx = .gw) (bt : Nat)
  (hbt : w.heap[bt]? = some (.cells #[.pointer (some ⟨t, 0, none⟩)] 379 (0, 0))) :
  Calls Tryz.prog 263 #[.pointer (some ⟨b.m, 0, none⟩), .pointer (some ⟨bt, 0, none⟩)] w (PhaseSays w b F t (x.next σ).1 (x.next σ).2.1 (x.next σ).2.2) := by
 have hx0 := hx
 obtain ⟨hF, ⟨fv, ho, hf⟩, hri, hrw, hc, hrn⟩ := hx
 have htb : ¬ b.has bt := hb.not_has hbt (by decide) (by decide) (by decide)
 have ht : ¬ b.has t := hA.ne t hF
 have e : TL.next x σ = (x, x.swp σ x.i) := by simp [TL.next, hn]
 have HE := Lib.hid e
 obtain ⟨qt, _, lt⟩ := obj_cells hbt
 have ct : w.cell? ⟨bt, 0, none⟩ = some (.pointer (some ⟨t, 0, none⟩)) := qt 0
 obtain ⟨q, _, lq⟩ := obj_cells ho
 have c5 : w.cell? ⟨t, 5, none⟩ = some (.int .u32 x.i) := q 5
 have HO := Lib.hid ho
 clear qt e ho hf hbt hn q
 go_enter Tryz.func263, Tryz.ntmps263
 go_wp2
 go_region_held3 (fun w' => w'.cell? ⟨bt, 0, none⟩ = some (.pointer (some ⟨t, 0, none⟩)) ∧ w'.cell? ⟨t, 5, none⟩ = some (.int .u32 x.i))
  (first | exact ⟨ct, c5⟩ | exact ⟨hpS.kp.cell ct htb, hpS.kp.cell c5 ht⟩)
  ((go_at_call 222; refine (taglist_swap w.drew b σ (hb.same (Kp.refl _ _).drew) hfn t x fv HO.out x.i hri hrw).mono ?_; rintro e wS ⟨rfl, hpS'⟩; have hpS := hpS'.undrew))
 go_wp2
 go_ret
 rw [HE.out]
 exact ⟨rfl, Post.mk3 hb hA (Kp.refl _ _) hpS (Kp.refl _ _) (fun F' h1 h2 h3 => hx0.kept (fun k o hk ho => hpS.kp.heap ho (hA.ne k hk)) h1)⟩
theorem give_second (w : World) (b : MB) (σ : MemS) (hb : MemAt w b σ) (hfn : σ.notes.length < 1000000000) (F : Nat → Prop) (hA : Apart w b F) (t : Nat) (x : TL) (hx : TLAt w F t x) (hn : x.nx = .gs) :
  Calls Tryz.prog 261 #[.pointer (some ⟨t, 0, none⟩), .pointer (some ⟨b.m, 0, none⟩)] w (PhaseSays w b F t (x.next σ).1 (x.next σ).2.1 (x.next σ).2.2) := by
 obtain ⟨hF, ⟨fv, ho, hf⟩, hri, hrw, hc, hrn⟩ := hx
 obtain ⟨c, at_, i, ww, nx, st⟩ := x
 simp only at hn hri hrw hc
 subst hn
 have hf' : fv = .func (.func 261) #[.pointer (some ⟨t, 0, none⟩)] #[] := hf
 subst hf'
 have ho1 : w.heap[t]? = some (.cells #[.int .i64 c.nodes, .int .i64 c.slots, .int .i64 c.holders, .int .u32 c.tag, .int .i64 at_, .int .u32 i, .int .u64 ww, .func (.func 261) #[.pointer (some ⟨t, 0, none⟩)] #[], .int .i64 st] 387 (0, 0)) := ho
 have ht : ¬ b.has t := hb.not_has ho1 (by decide) (by decide) (by decide)
 have lt : t < w.heap.size := lt_of_heap ho1
 have HO := Lib.hid ho1
 clear ho ho1 hf
 have hnx := fun w => layout_Next c w hc i hri
 unfold LCfg.v at hnx
 go_enter Tryz.func261, Tryz.ntmps261
 go_wp2_with fail
 refine wp_world ?_
 intro W hW
 have hKW : Kp (fun _ => False) w W := by rw [hW]; exact (Kp.refl _ _).alloc _
 have hBW : W.heap[w.heap.size]? = some (.cells #[.pointer (some ⟨t, 0, none⟩)] 379 (0, 0)) := by rw [hW]; exact hp_new _ _ _ rfl
 have hsz : W.heap.size = w.heap.size + 1 := by rw [hW]; simp
 have hOW := hKW.heap HO.out (fun e => e)
 have hbW := hb.same hKW
 have htB : ¬ b.has w.heap.size := hbW.not_has hBW (by decide) (by decide) (by decide)
 obtain ⟨qb, fb, lb⟩ := obj_cells hBW
 obtain ⟨q, fq, lq2⟩ := obj_cells hOW
 have cb : W.cell? ⟨w.heap.size, 0, none⟩ = some (.pointer (some ⟨t, 0, none⟩)) := qb 0
 have c0 : W.cell? ⟨t, 0, none⟩ = some (.int .i64 c.nodes) := q 0
 have c1 : W.cell? ⟨t, 1, none⟩ = some (.int .i64 c.slots) := q 1
 have c2 : W.cell? ⟨t, 2, none⟩ = some (.int .i64 c.holders) := q 2
 have c3 : W.cell? ⟨t, 3, none⟩ = some (.int .u32 c.tag) := q 3
 have c5 : W.cell? ⟨t, 5, none⟩ = some (.int .u32 i) := q 5
 have c6 : W.cell? ⟨t, 6, none⟩ = some (.int .u64 ww) := q 6
 have HBW := Lib.hid hBW
 have HOW := Lib.hid hOW
 have HbW := Lib.hid hbW
 have hidx : 0 ≤ idxOf ww ∧ idxOf ww < 18446744073709551616 := by unfold idxOf; omega
 have hcv : IntKind.u64.wrap (idxOf ww) = idxOf ww := IntWalk.u64_in _ (by omega)
 clear hW hBW hOW hsz qb fb q fq hbW
 by_cases hh : σ.has (c.nextAt i)
 ·have e : TL.next ⟨c, at_, i, ww, .gs, st⟩ σ = (⟨c, at_, i, ww, .gw, st⟩, σ.store (c.nextAt i) (idxOf ww), 0) := by simp [TL.next, hh]
  have HE := Lib.hid e
  clear e
  go_region_held3 (fun w' => w'.cell? ⟨w.heap.size, 0, none⟩ = some (.pointer (some ⟨t, 0, none⟩)) ∧ w'.cell? ⟨t, 0, none⟩ = some (.int .i64 c.nodes) ∧ w'.cell? ⟨t, 1, none⟩ = some (.int .i64 c.slots) ∧ w'.cell? ⟨t, 2, none⟩ = some (.int .i64 c.holders) ∧ w'.cell? ⟨t, 3, none⟩ = some (.int .u32 c.tag) ∧ w'.cell? ⟨t, 5, none⟩ = some (.int .u32 i) ∧ w'.cell? ⟨t, 6, none⟩ = some (.int .u64 ww))
   (first
    | exact ⟨cb, c0, c1, c2, c3, c5, c6⟩
    | exact ⟨Scb, Sc0, Sc1, Sc2, Sc3, Sc5, Sc6⟩
    | exact ⟨Icb, Ic0, Ic1, Ic2, Ic3, Ic5, Ic6⟩
    | exact ⟨Ncb, Nc0, Nc1, Nc2, Nc3, Nc5, Nc6⟩)
   ((first
    | (go_at_call 77; refine (hnx W.drew).mono ?_; rintro e wN ⟨rfl, hbN'⟩; have hKN : Kp (fun _ => False) W wN := Kp.nb (undrew hbN'); have Ncb := hKN.cell cb (fun e => e); have Nc0 := hKN.cell c0 (fun e => e); have Nc1 := hKN.cell c1 (fun e => e); have Nc2 := hKN.cell c2 (fun e => e); have Nc3 := hKN.cell c3 (fun e => e); have Nc5 := hKN.cell c5 (fun e => e); have Nc6 := hKN.cell c6 (fun e => e))
    | (go_at_call 217; refine (pack_Index ww wN).mono ?_; rintro e wI ⟨rfl, hbI'⟩; have hKI : Kp (fun _ => False) W wI := hKN.comp (Kp.nb hbI') (fun _ _ e => e); have Icb := hKI.cell cb (fun e => e); have Ic0 := hKI.cell c0 (fun e => e); have Ic1 := hKI.cell c1 (fun e => e); have Ic2 := hKI.cell c2 (fun e => e); have Ic3 := hKI.cell c3 (fun e => e); have Ic5 := hKI.cell c5 (fun e => e); have Ic6 := hKI.cell c6 (fun e => e))
    | (go_at_call 244; refine (mem_store wI b σ (HbW.out.same hKI) hfn (c.nextAt i) (idxOf ww) hidx).mono ?_; rintro e wS hS; obtain ⟨rfl, hp⟩ := hS.1 hh; have hKS : Kp b.has W wS := hKI.to hp.kp; have Scb := hKS.cell cb htB; have Sc0 := hKS.cell c0 ht; have Sc1 := hKS.cell c1 ht; have Sc2 := hKS.cell c2 ht; have Sc3 := hKS.cell c3 ht; have Sc5 := hKS.cell c5 ht; have Sc6 := hKS.cell c6 ht)))
  have hOS := hKS.heap HOW.out ht
  have hBS := hKS.heap HBW.out htB
  have sS := hKS.size
  have sI := hKI.size
  obtain ⟨qb, fb, lb2⟩ := obj_cells hBS
  obtain ⟨q, fq, lq3⟩ := obj_cells hOS
  have HOS := Lib.hid hOS
  have HBS := Lib.hid hBS
  clear hOS hBS cb c0 c1 c2 c3 c5 c6 Ncb Nc0 Nc1 Nc2 Nc3 Nc5 Nc6 Icb Ic0 Ic1 Ic2 Ic3 Ic5 Ic6 Scb Sc0 Sc1 Sc2 Sc3 Sc5 Sc6
  go_wp2_with fail
  go_ret
  rw [HE.out]
  exact ⟨rfl, Post.mk3 hb hA (hKW.comp hKI (fun _ _ e => e)) hp (Kp.st (Kp.refl _ _) (.inl (.inl hF)) 7 _) (fun F' h1 h2 h3 => ⟨h1 _ hF, ⟨_, hp_same _ _ 7 _ HOS.out, ⟨w.heap.size, h2 _ (Nat.le_refl _) (by omega), rfl, (hp_other _ ⟨t, 7, none⟩ _ _ (by show w.heap.size ≠ t; omega)).trans HBS.out⟩⟩, hri, hrw, hc, fun n e => by cases e⟩)⟩
 ·have e : TL.next ⟨c, at_, i, ww, .gs, st⟩ σ = (⟨c, at_, i, ww, .gs, st⟩, σ, 5) := by simp [TL.next, hh]
  have HE := Lib.hid e
  clear e
  go_region_held3 (fun w' => w'.cell? ⟨w.heap.size, 0, none⟩ = some (.pointer (some ⟨t, 0, none⟩)) ∧ w'.cell? ⟨t, 0, none⟩ = some (.int .i64 c.nodes) ∧ w'.cell? ⟨t, 1, none⟩ = some (.int .i64 c.slots) ∧ w'.cell? ⟨t, 2, none⟩ = some (.int .i64 c.holders) ∧ w'.cell? ⟨t, 3, none⟩ = some (.int .u32 c.tag) ∧ w'.cell? ⟨t, 5, none⟩ = some (.int .u32 i) ∧ w'.cell? ⟨t, 6, none⟩ = some (.int .u64 ww))
   (first
    | exact ⟨cb, c0, c1, c2, c3, c5, c6⟩
    | exact ⟨Scb, Sc0, Sc1, Sc2, Sc3, Sc5, Sc6⟩
    | exact ⟨Icb, Ic0, Ic1, Ic2, Ic3, Ic5, Ic6⟩
    | exact ⟨Ncb, Nc0, Nc1, Nc2, Nc3, Nc5, Nc6⟩)
   ((first
    | (go_at_call 77; refine (hnx W.drew).mono ?_; rintro e wN ⟨rfl, hbN'⟩; have hKN : Kp (fun _ => False) W wN := Kp.nb (undrew hbN'); have Ncb := hKN.cell cb (fun e => e); have Nc0 := hKN.cell c0 (fun e => e); have Nc1 := hKN.cell c1 (fun e => e); have Nc2 := hKN.cell c2 (fun e => e); have Nc3 := hKN.cell c3 (fun e => e); have Nc5 := hKN.cell c5 (fun e => e); have Nc6 := hKN.cell c6 (fun e => e))
    | (go_at_call 217; refine (pack_Index ww wN).mono ?_; rintro e wI ⟨rfl, hbI'⟩; have hKI : Kp (fun _ => False) W wI := hKN.comp (Kp.nb hbI') (fun _ _ e => e); have Icb := hKI.cell cb (fun e => e); have Ic0 := hKI.cell c0 (fun e => e); have Ic1 := hKI.cell c1 (fun e => e); have Ic2 := hKI.cell c2 (fun e => e); have Ic3 := hKI.cell c3 (fun e => e); have Ic5 := hKI.cell c5 (fun e => e); have Ic6 := hKI.cell c6 (fun e => e))
    | (go_at_call 244; refine (mem_store wI b σ (HbW.out.same hKI) hfn (c.nextAt i) (idxOf ww) hidx).mono ?_; rintro e wS hS; obtain ⟨rfl, hpk⟩ := hS.2 hh; have hKS : Kp (fun _ => False) W wS := hKI.comp hpk (fun _ _ e => e); have Scb := hKS.cell cb (fun e => e); have Sc0 := hKS.cell c0 (fun e => e); have Sc1 := hKS.cell c1 (fun e => e); have Sc2 := hKS.cell c2 (fun e => e); have Sc3 := hKS.cell c3 (fun e => e); have Sc5 := hKS.cell c5 (fun e => e); have Sc6 := hKS.cell c6 (fun e => e))))
  have hOS := hKS.heap HOW.out (fun e => e)
  have HOS := Lib.hid hOS
  clear hOS cb c0 c1 c2 c3 c5 c6 Ncb Nc0 Nc1 Nc2 Nc3 Nc5 Nc6 Icb Ic0 Ic1 Ic2 Ic3 Ic5 Ic6 Scb Sc0 Sc1 Sc2 Sc3 Sc5 Sc6
  go_wp2_with fail
  go_ret
  rw [HE.out]
  exact ⟨rfl, Post.mk0 hb hA ((hKW.comp hKS (fun _ _ e => e)).mono (fun _ e => e.elim)) (fun F' h1 h2 => ⟨h1 _ hF, ⟨_, HOS.out, rfl⟩, hri, hrw, hc, fun n e => by cases e⟩)⟩
end Go.Proofs.YtgdoeoackhfikaaGreatDoor

namespace Go.Proofs.YtgdoeoackhfikaaGreatDoor
open Go.RowKit Go.Proofs.YtgdoeoackhfikaaGreatDoorW.PrintWords
set_option maxRecDepth 100000
set_option maxHeartbeats 4000000
set_option linter.unusedSimpArgs false
set_option linter.unusedVariables false
attribute [local go_sem] hs_other hs_alloc hs_falloc run_store_func run_makeFunc
attribute [local go_sem ↓] Go.wp_at_zero Go.wp_at_succ
def TryPost (w : World) (b : MB) (F : Nat → Prop) (t : Nat) (y : TL) (σ' : MemS) (e : Ending) (w' : World) : Prop :=
 e = .returned (.tuple #[.int .i64 y.st, .int .u32 y.told]) ∧ Post F w b σ' w' (fun W F' => TLAt W F' t y)
theorem Post.status {w w1 : World} {b : MB} {σ' : MemS} {F : Nat → Prop} {t : Nat} {y : TL} (hA : Apart w b F) (hF : F t) (h : Post F w b σ' w1 (fun W F' => TLAt W F' t y)) (s : Int) {σ : MemS} (hb : MemAt w b σ) :
  Post F w b σ' (w1.setCell ⟨t, 8, none⟩ (.int .i64 s)) (fun W F' => TLAt W F' t { y with st := s }) := by
 obtain ⟨nv', hm, hn, hk, hF', ⟨fv, ho, hf⟩, h1, h2, h3, h4⟩ := h
 have hA' := hA.next hb hm hn hk.size
 have hs : ∀ (W : World), (w1.setCell ⟨t, 8, none⟩ (.int .i64 s)).heap.size = w1.heap.size := fun _ => by simp
 have hKp : Kp (fun k => k = t) w1 (w1.setCell ⟨t, 8, none⟩ (.int .i64 s)) := Kp.st (S := fun k => k = t) (Kp.refl _ _) (.inl rfl) 8 _
 have e : grownF F w (w1.setCell ⟨t, 8, none⟩ (.int .i64 s)) nv' = grownF F w w1 nv' := by
  funext k
  unfold grownF
  rw [hs w1]
 refine ⟨nv', hm.kept hKp (fun k hk' e' => hA'.ne t hF' (by rw [← e']; exact hk')), hn, hk.comp hKp (fun k _ e' => .inl (by rw [e']; exact hF)), ?_⟩
 rw [e]
 refine ⟨hF', ⟨fv, hp_same _ _ 8 _ ho, hf.kept (fun k o _ hk' hne => (hp_other _ ⟨t, 8, none⟩ _ _ hne).trans hk') (fun _ h => h) (fun cs u hh => ?_)⟩, h1, h2, h3, h4⟩
 rw [ho] at hh
 injection hh with hh
 injection hh with _ hu
 rw [← hu]
 unfold TL.ty
 cases y.nx.isTake
 ·exact .inr rfl
 ·exact .inl rfl
theorem Post.cells {w w1 : World} {b : MB} {σ' : MemS} {F : Nat → Prop} {t : Nat} {y : TL} (h : Post F w b σ' w1 (fun W F' => TLAt W F' t y)) : ∃ fv, w1.heap[t]? = some (.cells (y.cs fv) y.ty (0, 0)) := by
 obtain ⟨_, _, _, _, _, ⟨fv, ho, _⟩, _⟩ := h
 exact ⟨fv, ho⟩
theorem Post.drew {F : Nat → Prop} {w w' : World} {b : MB} {σ' : MemS} {t : Nat} {y : TL} (h : Post F w b σ' w' (fun W F' => TLAt W F' t y)) : Post F w b σ' w'.drew (fun W F' => TLAt W F' t y) := by
 obtain ⟨nv', a, c, d, e⟩ := h
 exact ⟨nv', ⟨a.own, a.words, a.notes, a.range, a.few⟩, c, d.drew, e.kept (fun _ _ _ h => h) (fun _ h => h)⟩
theorem taglist_step_idle (w : World) (b : MB) (σ : MemS) (hb : MemAt w b σ) (F : Nat → Prop) (hA : Apart w b F) (t : Nat) (x : TL) (hx : TLAt w F t x) (hs : x.st ≠ 0) :
  Calls Tryz.prog 291 #[.pointer (some ⟨t, 0, none⟩), .pointer (some ⟨b.m, 0, none⟩)] w (TryPost w b F t (x.step σ).1 (x.step σ).2) := by
 have e : x.step σ = (x, σ) := by unfold TL.step; rw [if_neg hs]
 rw [e]
 clear e
 have hx0 := hx
 obtain ⟨hF, ⟨fv, ho, hf⟩, hri, hrw, hc, hrn⟩ := hx
 obtain ⟨q, fq, lq⟩ := obj_cells ho
 have c5 : w.cell? ⟨t, 5, none⟩ = some (.int .u32 x.i) := q 5
 have c8 : w.cell? ⟨t, 8, none⟩ = some (.int .i64 x.st) := q 8
 clear q fq ho hf
 have t0 : (x.st == 0) = false := beq_eq_false_iff_ne.2 hs
 have hP0 : Post F w b σ w (fun W F' => TLAt W F' t x) := Post.mk0 hb hA (Kp.refl _ _) (fun F' h1 h2 => hx0.kept (fun _ _ _ h => h) h1)
 have hP : Post F w b σ w.drew (fun W F' => TLAt W F' t x) := Post.mk0 hb hA (Kp.refl _ _).drew (fun F' h1 h2 => hx0.kept (fun _ _ _ h => h) h1)
 by_cases h1 : x.st = 1
 ·have t1 : (x.st != 1) = false := by rw [h1]; rfl
  have e2 : x.told = x.i := by unfold TL.told; rw [if_pos h1]
  have HE := Lib.hid e2
  clear e2 h1
  go_enter Tryz.func291, Tryz.ntmps291
  go_wp2
  go_region_held3 (fun w' => w'.cell? ⟨t, 5, none⟩ = some (.int .u32 x.i) ∧ w'.cell? ⟨t, 8, none⟩ = some (.int .i64 x.st)) (exact ⟨c5, c8⟩) (fail)
  go_wp2
  go_ret2
  refine ⟨?_, hP⟩
  rw [HE.out]
  rfl
 ·have t1 : (x.st != 1) = true := by rw [bne_iff_ne]; exact h1
  have e2 : x.told = 0 := by unfold TL.told; rw [if_neg h1]
  have HE := Lib.hid e2
  clear e2 h1
  go_enter Tryz.func291, Tryz.ntmps291
  go_wp2
  skip
  go_ret2
  refine ⟨?_, hP0⟩
  rw [HE.out]
  rfl
theorem taglist_step_th (w : World) (b : MB) (σ : MemS) (hb : MemAt w b σ) (hfn : σ.notes.length < 1000000000) (F : Nat → Prop) (hA : Apart w b F) (t : Nat) (x : TL) (hx : TLAt w F t x) (hn : x.nx = .th) (hs : x.st = 0) :
  Calls Tryz.prog 291 #[.pointer (some ⟨t, 0, none⟩), .pointer (some ⟨b.m, 0, none⟩)] w (TryPost w b F t (x.step σ).1 (x.step σ).2) := by
 have hF := hx.own
 obtain ⟨fv, ho, hf⟩ := hx.obj
 rw [hn] at hf
 have hd := take_head w b σ hb hfn F hA t x hx hn
 have hf' : fv = .func (.func 215) #[.pointer (some ⟨t, 0, none⟩)] #[] := hf
 subst hf'
 have e : x.step σ = ({ (x.next σ).1 with st := (x.next σ).2.2 }, (x.next σ).2.1) := by unfold TL.step; rw [if_pos hs]
 rw [e]
 clear e
 generalize x.next σ = r at *
 obtain ⟨y, σ', s⟩ := r
 simp only at hd ⊢
 obtain ⟨q, fq, lq⟩ := obj_cells ho
 have c7 : w.cell? ⟨t, 7, none⟩ = some (.func (.func 215) #[.pointer (some ⟨t, 0, none⟩)] #[]) := q 7
 have c8 : w.cell? ⟨t, 8, none⟩ = some (.int .i64 0) := by rw [q 8]; simp [TL.cs, hs]
 clear q fq ho hf
 by_cases h1 : s = 1
 ·have t1 : (s != 1) = false := by rw [h1]; rfl
  have t2 : (s == 1) = true := by rw [h1]; rfl
  have e2 : TL.told { y with st := s } = y.i := by unfold TL.told; rw [if_pos h1]
  have HE := Lib.hid e2
  clear e2 h1
  go_enter Tryz.func291, Tryz.ntmps291
  go_wp2_with fail
  refine hd.mono ?_
  rintro e w1 ⟨rfl, hP⟩
  have hP2 := hP.status hA hF s hb
  obtain ⟨fv1, ho1⟩ := hP.cells
  obtain ⟨fv2, ho2⟩ := hP2.cells
  obtain ⟨q1, fq1, lq1⟩ := obj_cells ho1
  obtain ⟨q2, fq2, lq2⟩ := obj_cells ho2
  have d8 : w1.cell? ⟨t, 8, none⟩ = some (.int .i64 y.st) := q1 8
  have f8 : w1.frozen? ⟨t, 8, none⟩ = false := fq1 8
  have d5 : (w1.setCell ⟨t, 8, none⟩ (.int .i64 s)).cell? ⟨t, 5, none⟩ = some (.int .u32 y.i) := q2 5
  have d9 : (w1.setCell ⟨t, 8, none⟩ (.int .i64 s)).cell? ⟨t, 8, none⟩ = some (.int .i64 s) := q2 8
  have HP := Lib.hid hP2
  clear q1 q2 fq1 fq2 ho1 ho2 c7 c8 hP hP2 hd
  go_wp2_with fail
  go_region_held3 (fun w' => w'.cell? ⟨t, 5, none⟩ = some (.int .u32 y.i) ∧ w'.cell? ⟨t, 8, none⟩ = some (.int .i64 s)) (exact ⟨d5, d9⟩) (fail)
  go_wp2
  go_ret2
  refine ⟨?_, HP.out.drew⟩
  rw [HE.out]
  rfl
 ·have t1 : (s != 1) = true := by rw [bne_iff_ne]; exact h1
  have t2 : (s == 1) = false := beq_eq_false_iff_ne.2 h1
  have e2 : TL.told { y with st := s } = 0 := by unfold TL.told; rw [if_neg h1]
  have HE := Lib.hid e2
  clear e2 h1
  go_enter Tryz.func291, Tryz.ntmps291
  go_wp2_with fail
  refine hd.mono ?_
  rintro e w1 ⟨rfl, hP⟩
  have hP2 := hP.status hA hF s hb
  obtain ⟨fv1, ho1⟩ := hP.cells
  obtain ⟨fv2, ho2⟩ := hP2.cells
  obtain ⟨q1, fq1, lq1⟩ := obj_cells ho1
  obtain ⟨q2, fq2, lq2⟩ := obj_cells ho2
  have d8 : w1.cell? ⟨t, 8, none⟩ = some (.int .i64 y.st) := q1 8
  have f8 : w1.frozen? ⟨t, 8, none⟩ = false := fq1 8
  have d9 : (w1.setCell ⟨t, 8, none⟩ (.int .i64 s)).cell? ⟨t, 8, none⟩ = some (.int .i64 s) := q2 8
  have HP := Lib.hid hP2
  clear q1 q2 fq1 fq2 ho1 ho2 c7 c8 hP hP2 hd
  go_wp2_with fail
  skip
  go_ret2
  refine ⟨?_, HP.out⟩
  rw [HE.out]
  rfl
theorem taglist_step_ts (w : World) (b : MB) (σ : MemS) (hb : MemAt w b σ) (hfn : σ.notes.length < 1000000000) (F : Nat → Prop) (hA : Apart w b F) (t : Nat) (x : TL) (hx : TLAt w F t x) (hn : x.nx = .ts) (hs : x.st = 0) :
  Calls Tryz.prog 291 #[.pointer (some ⟨t, 0, none⟩), .pointer (some ⟨b.m, 0, none⟩)] w (TryPost w b F t (x.step σ).1 (x.step σ).2) := by
 have hF := hx.own
 obtain ⟨fv, ho, hf⟩ := hx.obj
 rw [hn] at hf
 have hd := take_second w b σ hb hfn F hA t x hx hn
 have hf' : fv = .func (.func 218) #[.pointer (some ⟨t, 0, none⟩)] #[] := hf
 subst hf'
 have e : x.step σ = ({ (x.next σ).1 with st := (x.next σ).2.2 }, (x.next σ).2.1) := by unfold TL.step; rw [if_pos hs]
 rw [e]
 clear e
 generalize x.next σ = r at *
 obtain ⟨y, σ', s⟩ := r
 simp only at hd ⊢
 obtain ⟨q, fq, lq⟩ := obj_cells ho
 have c7 : w.cell? ⟨t, 7, none⟩ = some (.func (.func 218) #[.pointer (some ⟨t, 0, none⟩)] #[]) := q 7
 have c8 : w.cell? ⟨t, 8, none⟩ = some (.int .i64 0) := by rw [q 8]; simp [TL.cs, hs]
 clear q fq ho hf
 by_cases h1 : s = 1
 ·have t1 : (s != 1) = false := by rw [h1]; rfl
  have t2 : (s == 1) = true := by rw [h1]; rfl
  have e2 : TL.told { y with st := s } = y.i := by unfold TL.told; rw [if_pos h1]
  have HE := Lib.hid e2
  clear e2 h1
  go_enter Tryz.func291, Tryz.ntmps291
  go_wp2_with fail
  refine hd.mono ?_
  rintro e w1 ⟨rfl, hP⟩
  have hP2 := hP.status hA hF s hb
  obtain ⟨fv1, ho1⟩ := hP.cells
  obtain ⟨fv2, ho2⟩ := hP2.cells
  obtain ⟨q1, fq1, lq1⟩ := obj_cells ho1
  obtain ⟨q2, fq2, lq2⟩ := obj_cells ho2
  have d8 : w1.cell? ⟨t, 8, none⟩ = some (.int .i64 y.st) := q1 8
  have f8 : w1.frozen? ⟨t, 8, none⟩ = false := fq1 8
  have d5 : (w1.setCell ⟨t, 8, none⟩ (.int .i64 s)).cell? ⟨t, 5, none⟩ = some (.int .u32 y.i) := q2 5
  have d9 : (w1.setCell ⟨t, 8, none⟩ (.int .i64 s)).cell? ⟨t, 8, none⟩ = some (.int .i64 s) := q2 8
  have HP := Lib.hid hP2
  clear q1 q2 fq1 fq2 ho1 ho2 c7 c8 hP hP2 hd
  go_wp2_with fail
  go_region_held3 (fun w' => w'.cell? ⟨t, 5, none⟩ = some (.int .u32 y.i) ∧ w'.cell? ⟨t, 8, none⟩ = some (.int .i64 s)) (exact ⟨d5, d9⟩) (fail)
  go_wp2
  go_ret2
  refine ⟨?_, HP.out.drew⟩
  rw [HE.out]
  rfl
 ·have t1 : (s != 1) = true := by rw [bne_iff_ne]; exact h1
  have t2 : (s == 1) = false := beq_eq_false_iff_ne.2 h1
  have e2 : TL.told { y with st := s } = 0 := by unfold TL.told; rw [if_neg h1]
  have HE := Lib.hid e2
  clear e2 h1
  go_enter Tryz.func291, Tryz.ntmps291
  go_wp2_with fail
  refine hd.mono ?_
  rintro e w1 ⟨rfl, hP⟩
  have hP2 := hP.status hA hF s hb
  obtain ⟨fv1, ho1⟩ := hP.cells
  obtain ⟨fv2, ho2⟩ := hP2.cells
  obtain ⟨q1, fq1, lq1⟩ := obj_cells ho1
  obtain ⟨q2, fq2, lq2⟩ := obj_cells ho2
  have d8 : w1.cell? ⟨t, 8, none⟩ = some (.int .i64 y.st) := q1 8
  have f8 : w1.frozen? ⟨t, 8, none⟩ = false := fq1 8
  have d9 : (w1.setCell ⟨t, 8, none⟩ (.int .i64 s)).cell? ⟨t, 8, none⟩ = some (.int .i64 s) := q2 8
  have HP := Lib.hid hP2
  clear q1 q2 fq1 fq2 ho1 ho2 c7 c8 hP hP2 hd
  go_wp2_with fail
  skip
  go_ret2
  refine ⟨?_, HP.out⟩
  rw [HE.out]
  rfl
theorem taglist_step_gh (w : World) (b : MB) (σ : MemS) (hb : MemAt w b σ) (hfn : σ.notes.length < 1000000000) (F : Nat → Prop) (hA : Apart w b F) (t : Nat) (x : TL) (hx : TLAt w F t x) (hn : x.nx = .gh) (hs : x.st = 0) :
  Calls Tryz.prog 291 #[.pointer (some ⟨t, 0, none⟩), .pointer (some ⟨b.m, 0, none⟩)] w (TryPost w b F t (x.step σ).1 (x.step σ).2) := by
 have hF := hx.own
 obtain ⟨fv, ho, hf⟩ := hx.obj
 rw [hn] at hf
 have hd := give_head w b σ hb hfn F hA t x hx hn
 have hf' : fv = .func (.func 255) #[.pointer (some ⟨t, 0, none⟩)] #[] := hf
 subst hf'
 have e : x.step σ = ({ (x.next σ).1 with st := (x.next σ).2.2 }, (x.next σ).2.1) := by unfold TL.step; rw [if_pos hs]
 rw [e]
 clear e
 generalize x.next σ = r at *
 obtain ⟨y, σ', s⟩ := r
 simp only at hd ⊢
 obtain ⟨q, fq, lq⟩ := obj_cells ho
 have c7 : w.cell? ⟨t, 7, none⟩ = some (.func (.func 255) #[.pointer (some ⟨t, 0, none⟩)] #[]) := q 7
 have c8 : w.cell? ⟨t, 8, none⟩ = some (.int .i64 0) := by rw [q 8]; simp [TL.cs, hs]
 clear q fq ho hf
 by_cases h1 : s = 1
 ·have t1 : (s != 1) = false := by rw [h1]; rfl
  have t2 : (s == 1) = true := by rw [h1]; rfl
  have e2 : TL.told { y with st := s } = y.i := by unfold TL.told; rw [if_pos h1]
  have HE := Lib.hid e2
  clear e2 h1
  go_enter Tryz.func291, Tryz.ntmps291
  go_wp2_with fail
  refine hd.mono ?_
  rintro e w1 ⟨rfl, hP⟩
  have hP2 := hP.status hA hF s hb
  obtain ⟨fv1, ho1⟩ := hP.cells
  obtain ⟨fv2, ho2⟩ := hP2.cells
  obtain ⟨q1, fq1, lq1⟩ := obj_cells ho1
  obtain ⟨q2, fq2, lq2⟩ := obj_cells ho2
  have d8 : w1.cell? ⟨t, 8, none⟩ = some (.int .i64 y.st) := q1 8
  have f8 : w1.frozen? ⟨t, 8, none⟩ = false := fq1 8
  have d5 : (w1.setCell ⟨t, 8, none⟩ (.int .i64 s)).cell? ⟨t, 5, none⟩ = some (.int .u32 y.i) := q2 5
  have d9 : (w1.setCell ⟨t, 8, none⟩ (.int .i64 s)).cell? ⟨t, 8, none⟩ = some (.int .i64 s) := q2 8
  have HP := Lib.hid hP2
  clear q1 q2 fq1 fq2 ho1 ho2 c7 c8 hP hP2 hd
  go_wp2_with fail
  go_region_held3 (fun w' => w'.cell? ⟨t, 5, none⟩ = some (.int .u32 y.i) ∧ w'.cell? ⟨t, 8, none⟩ = some (.int .i64 s)) (exact ⟨d5, d9⟩) (fail)
  go_wp2
  go_ret2
  refine ⟨?_, HP.out.drew⟩
  rw [HE.out]
  rfl
 ·have t1 : (s != 1) = true := by rw [bne_iff_ne]; exact h1
  have t2 : (s == 1) = false := beq_eq_false_iff_ne.2 h1
  have e2 : TL.told { y with st := s } = 0 := by unfold TL.told; rw [if_neg h1]
  have HE := Lib.hid e2
  clear e2 h1
  go_enter Tryz.func291, Tryz.ntmps291
  go_wp2_with fail
  refine hd.mono ?_
  rintro e w1 ⟨rfl, hP⟩
  have hP2 := hP.status hA hF s hb
  obtain ⟨fv1, ho1⟩ := hP.cells
  obtain ⟨fv2, ho2⟩ := hP2.cells
  obtain ⟨q1, fq1, lq1⟩ := obj_cells ho1
  obtain ⟨q2, fq2, lq2⟩ := obj_cells ho2
  have d8 : w1.cell? ⟨t, 8, none⟩ = some (.int .i64 y.st) := q1 8
  have f8 : w1.frozen? ⟨t, 8, none⟩ = false := fq1 8
  have d9 : (w1.setCell ⟨t, 8, none⟩ (.int .i64 s)).cell? ⟨t, 8, none⟩ = some (.int .i64 s) := q2 8
  have HP := Lib.hid hP2
  clear q1 q2 fq1 fq2 ho1 ho2 c7 c8 hP hP2 hd
  go_wp2_with fail
  skip
  go_ret2
  refine ⟨?_, HP.out⟩
  rw [HE.out]
  rfl
theorem taglist_step_gs (w : World) (b : MB) (σ : MemS) (hb : MemAt w b σ) (hfn : σ.notes.length < 1000000000) (F : Nat → Prop) (hA : Apart w b F) (t : Nat) (x : TL) (hx : TLAt w F t x) (hn : x.nx = .gs) (hs : x.st = 0) :
  Calls Tryz.prog 291 #[.pointer (some ⟨t, 0, none⟩), .pointer (some ⟨b.m, 0, none⟩)] w (TryPost w b F t (x.step σ).1 (x.step σ).2) := by
 have hF := hx.own
 obtain ⟨fv, ho, hf⟩ := hx.obj
 rw [hn] at hf
 have hd := give_second w b σ hb hfn F hA t x hx hn
 have hf' : fv = .func (.func 261) #[.pointer (some ⟨t, 0, none⟩)] #[] := hf
 subst hf'
 have e : x.step σ = ({ (x.next σ).1 with st := (x.next σ).2.2 }, (x.next σ).2.1) := by unfold TL.step; rw [if_pos hs]
 rw [e]
 clear e
 generalize x.next σ = r at *
 obtain ⟨y, σ', s⟩ := r
 simp only at hd ⊢
 obtain ⟨q, fq, lq⟩ := obj_cells ho
 have c7 : w.cell? ⟨t, 7, none⟩ = some (.func (.func 261) #[.pointer (some ⟨t, 0, none⟩)] #[]) := q 7
 have c8 : w.cell? ⟨t, 8, none⟩ = some (.int .i64 0) := by rw [q 8]; simp [TL.cs, hs]
 clear q fq ho hf
 by_cases h1 : s = 1
 ·have t1 : (s != 1) = false := by rw [h1]; rfl
  have t2 : (s == 1) = true := by rw [h1]; rfl
  have e2 : TL.told { y with st := s } = y.i := by unfold TL.told; rw [if_pos h1]
  have HE := Lib.hid e2
  clear e2 h1
  go_enter Tryz.func291, Tryz.ntmps291
  go_wp2_with fail
  refine hd.mono ?_
  rintro e w1 ⟨rfl, hP⟩
  have hP2 := hP.status hA hF s hb
  obtain ⟨fv1, ho1⟩ := hP.cells
  obtain ⟨fv2, ho2⟩ := hP2.cells
  obtain ⟨q1, fq1, lq1⟩ := obj_cells ho1
  obtain ⟨q2, fq2, lq2⟩ := obj_cells ho2
  have d8 : w1.cell? ⟨t, 8, none⟩ = some (.int .i64 y.st) := q1 8
  have f8 : w1.frozen? ⟨t, 8, none⟩ = false := fq1 8
  have d5 : (w1.setCell ⟨t, 8, none⟩ (.int .i64 s)).cell? ⟨t, 5, none⟩ = some (.int .u32 y.i) := q2 5
  have d9 : (w1.setCell ⟨t, 8, none⟩ (.int .i64 s)).cell? ⟨t, 8, none⟩ = some (.int .i64 s) := q2 8
  have HP := Lib.hid hP2
  clear q1 q2 fq1 fq2 ho1 ho2 c7 c8 hP hP2 hd
  go_wp2_with fail
  go_region_held3 (fun w' => w'.cell? ⟨t, 5, none⟩ = some (.int .u32 y.i) ∧ w'.cell? ⟨t, 8, none⟩ = some (.int .i64 s)) (exact ⟨d5, d9⟩) (fail)
  go_wp2
  go_ret2
  refine ⟨?_, HP.out.drew⟩
  rw [HE.out]
  rfl
 ·have t1 : (s != 1) = true := by rw [bne_iff_ne]; exact h1
  have t2 : (s == 1) = false := beq_eq_false_iff_ne.2 h1
  have e2 : TL.told { y with st := s } = 0 := by unfold TL.told; rw [if_neg h1]
  have HE := Lib.hid e2
  clear e2 h1
  go_enter Tryz.func291, Tryz.ntmps291
  go_wp2_with fail
  refine hd.mono ?_
  rintro e w1 ⟨rfl, hP⟩
  have hP2 := hP.status hA hF s hb
  obtain ⟨fv1, ho1⟩ := hP.cells
  obtain ⟨fv2, ho2⟩ := hP2.cells
  obtain ⟨q1, fq1, lq1⟩ := obj_cells ho1
  obtain ⟨q2, fq2, lq2⟩ := obj_cells ho2
  have d8 : w1.cell? ⟨t, 8, none⟩ = some (.int .i64 y.st) := q1 8
  have f8 : w1.frozen? ⟨t, 8, none⟩ = false := fq1 8
  have d9 : (w1.setCell ⟨t, 8, none⟩ (.int .i64 s)).cell? ⟨t, 8, none⟩ = some (.int .i64 s) := q2 8
  have HP := Lib.hid hP2
  clear q1 q2 fq1 fq2 ho1 ho2 c7 c8 hP hP2 hd
  go_wp2_with fail
  skip
  go_ret2
  refine ⟨?_, HP.out⟩
  rw [HE.out]
  rfl
theorem taglist_step_tw (w : World) (b : MB) (σ : MemS) (hb : MemAt w b σ) (hfn : σ.notes.length < 1000000000) (F : Nat → Prop) (hA : Apart w b F) (t : Nat) (x : TL) (hx : TLAt w F t x) (n : Int) (hn : x.nx = .tw n) (hs : x.st = 0) :
  Calls Tryz.prog 291 #[.pointer (some ⟨t, 0, none⟩), .pointer (some ⟨b.m, 0, none⟩)] w (TryPost w b F t (x.step σ).1 (x.step σ).2) := by
 have hF := hx.own
 obtain ⟨fv, ho, hf⟩ := hx.obj
 rw [hn] at hf
 obtain ⟨bt, bn, hF1, hF2, hf', hbt, hbn⟩ := hf
 have hd := take_third w b σ hb hfn F hA t x hx n hn bt bn hF2 hbt hbn
 subst hf'
 clear hbt hbn
 have e : x.step σ = ({ (x.next σ).1 with st := (x.next σ).2.2 }, (x.next σ).2.1) := by unfold TL.step; rw [if_pos hs]
 rw [e]
 clear e
 generalize x.next σ = r at *
 obtain ⟨y, σ', s⟩ := r
 simp only at hd ⊢
 obtain ⟨q, fq, lq⟩ := obj_cells ho
 have c7 : w.cell? ⟨t, 7, none⟩ = some (.func (.func 221) #[] #[.pointer (some ⟨bt, 0, none⟩), .pointer (some ⟨bn, 0, none⟩)]) := q 7
 have c8 : w.cell? ⟨t, 8, none⟩ = some (.int .i64 0) := by rw [q 8]; simp [TL.cs, hs]
 clear q fq ho
 by_cases h1 : s = 1
 ·have t1 : (s != 1) = false := by rw [h1]; rfl
  have t2 : (s == 1) = true := by rw [h1]; rfl
  have e2 : TL.told { y with st := s } = y.i := by unfold TL.told; rw [if_pos h1]
  have HE := Lib.hid e2
  clear e2 h1
  go_enter Tryz.func291, Tryz.ntmps291
  go_wp2_with fail
  refine hd.mono ?_
  rintro e w1 ⟨rfl, hP⟩
  have hP2 := hP.status hA hF s hb
  obtain ⟨fv1, ho1⟩ := hP.cells
  obtain ⟨fv2, ho2⟩ := hP2.cells
  obtain ⟨q1, fq1, lq1⟩ := obj_cells ho1
  obtain ⟨q2, fq2, lq2⟩ := obj_cells ho2
  have d8 : w1.cell? ⟨t, 8, none⟩ = some (.int .i64 y.st) := q1 8
  have f8 : w1.frozen? ⟨t, 8, none⟩ = false := fq1 8
  have d5 : (w1.setCell ⟨t, 8, none⟩ (.int .i64 s)).cell? ⟨t, 5, none⟩ = some (.int .u32 y.i) := q2 5
  have d9 : (w1.setCell ⟨t, 8, none⟩ (.int .i64 s)).cell? ⟨t, 8, none⟩ = some (.int .i64 s) := q2 8
  have HP := Lib.hid hP2
  clear q1 q2 fq1 fq2 ho1 ho2 c7 c8 hP hP2 hd
  go_wp2_with fail
  go_region_held3 (fun w' => w'.cell? ⟨t, 5, none⟩ = some (.int .u32 y.i) ∧ w'.cell? ⟨t, 8, none⟩ = some (.int .i64 s)) (exact ⟨d5, d9⟩) (fail)
  go_wp2
  go_ret2
  refine ⟨?_, HP.out.drew⟩
  rw [HE.out]
  rfl
 ·have t1 : (s != 1) = true := by rw [bne_iff_ne]; exact h1
  have t2 : (s == 1) = false := beq_eq_false_iff_ne.2 h1
  have e2 : TL.told { y with st := s } = 0 := by unfold TL.told; rw [if_neg h1]
  have HE := Lib.hid e2
  clear e2 h1
  go_enter Tryz.func291, Tryz.ntmps291
  go_wp2_with fail
  refine hd.mono ?_
  rintro e w1 ⟨rfl, hP⟩
  have hP2 := hP.status hA hF s hb
  obtain ⟨fv1, ho1⟩ := hP.cells
  obtain ⟨fv2, ho2⟩ := hP2.cells
  obtain ⟨q1, fq1, lq1⟩ := obj_cells ho1
  obtain ⟨q2, fq2, lq2⟩ := obj_cells ho2
  have d8 : w1.cell? ⟨t, 8, none⟩ = some (.int .i64 y.st) := q1 8
  have f8 : w1.frozen? ⟨t, 8, none⟩ = false := fq1 8
  have d9 : (w1.setCell ⟨t, 8, none⟩ (.int .i64 s)).cell? ⟨t, 8, none⟩ = some (.int .i64 s) := q2 8
  have HP := Lib.hid hP2
  clear q1 q2 fq1 fq2 ho1 ho2 c7 c8 hP hP2 hd
  go_wp2_with fail
  skip
  go_ret2
  refine ⟨?_, HP.out⟩
  rw [HE.out]
  rfl
theorem taglist_step_gw (w : World) (b : MB) (σ : MemS) (hb : MemAt w b σ) (hfn : σ.notes.length < 1000000000) (F : Nat → Prop) (hA : Apart w b F) (t : Nat) (x : TL) (hx : TLAt w F t x) (hn : x.nx = .gw) (hs : x.st = 0) :
  Calls Tryz.prog 291 #[.pointer (some ⟨t, 0, none⟩), .pointer (some ⟨b.m, 0, none⟩)] w (TryPost w b F t (x.step σ).1 (x.step σ).2) := by
 have hF := hx.own
 obtain ⟨fv, ho, hf⟩ := hx.obj
 rw [hn] at hf
 obtain ⟨bt, hF1, hf', hbt⟩ := hf
 have hd := give_third w b σ hb hfn F hA t x hx hn bt hbt
 subst hf'
 clear hbt
 have e : x.step σ = ({ (x.next σ).1 with st := (x.next σ).2.2 }, (x.next σ).2.1) := by unfold TL.step; rw [if_pos hs]
 rw [e]
 clear e
 generalize x.next σ = r at *
 obtain ⟨y, σ', s⟩ := r
 simp only at hd ⊢
 obtain ⟨q, fq, lq⟩ := obj_cells ho
 have c7 : w.cell? ⟨t, 7, none⟩ = some (.func (.func 263) #[] #[.pointer (some ⟨bt, 0, none⟩)]) := q 7
 have c8 : w.cell? ⟨t, 8, none⟩ = some (.int .i64 0) := by rw [q 8]; simp [TL.cs, hs]
 clear q fq ho
 by_cases h1 : s = 1
 ·have t1 : (s != 1) = false := by rw [h1]; rfl
  have t2 : (s == 1) = true := by rw [h1]; rfl
  have e2 : TL.told { y with st := s } = y.i := by unfold TL.told; rw [if_pos h1]
  have HE := Lib.hid e2
  clear e2 h1
  go_enter Tryz.func291, Tryz.ntmps291
  go_wp2_with fail
  refine hd.mono ?_
  rintro e w1 ⟨rfl, hP⟩
  have hP2 := hP.status hA hF s hb
  obtain ⟨fv1, ho1⟩ := hP.cells
  obtain ⟨fv2, ho2⟩ := hP2.cells
  obtain ⟨q1, fq1, lq1⟩ := obj_cells ho1
  obtain ⟨q2, fq2, lq2⟩ := obj_cells ho2
  have d8 : w1.cell? ⟨t, 8, none⟩ = some (.int .i64 y.st) := q1 8
  have f8 : w1.frozen? ⟨t, 8, none⟩ = false := fq1 8
  have d5 : (w1.setCell ⟨t, 8, none⟩ (.int .i64 s)).cell? ⟨t, 5, none⟩ = some (.int .u32 y.i) := q2 5
  have d9 : (w1.setCell ⟨t, 8, none⟩ (.int .i64 s)).cell? ⟨t, 8, none⟩ = some (.int .i64 s) := q2 8
  have HP := Lib.hid hP2
  clear q1 q2 fq1 fq2 ho1 ho2 c7 c8 hP hP2 hd
  go_wp2_with fail
  go_region_held3 (fun w' => w'.cell? ⟨t, 5, none⟩ = some (.int .u32 y.i) ∧ w'.cell? ⟨t, 8, none⟩ = some (.int .i64 s)) (exact ⟨d5, d9⟩) (fail)
  go_wp2
  go_ret2
  refine ⟨?_, HP.out.drew⟩
  rw [HE.out]
  rfl
 ·have t1 : (s != 1) = true := by rw [bne_iff_ne]; exact h1
  have t2 : (s == 1) = false := beq_eq_false_iff_ne.2 h1
  have e2 : TL.told { y with st := s } = 0 := by unfold TL.told; rw [if_neg h1]
  have HE := Lib.hid e2
  clear e2 h1
  go_enter Tryz.func291, Tryz.ntmps291
  go_wp2_with fail
  refine hd.mono ?_
  rintro e w1 ⟨rfl, hP⟩
  have hP2 := hP.status hA hF s hb
  obtain ⟨fv1, ho1⟩ := hP.cells
  obtain ⟨fv2, ho2⟩ := hP2.cells
  obtain ⟨q1, fq1, lq1⟩ := obj_cells ho1
  obtain ⟨q2, fq2, lq2⟩ := obj_cells ho2
  have d8 : w1.cell? ⟨t, 8, none⟩ = some (.int .i64 y.st) := q1 8
  have f8 : w1.frozen? ⟨t, 8, none⟩ = false := fq1 8
  have d9 : (w1.setCell ⟨t, 8, none⟩ (.int .i64 s)).cell? ⟨t, 8, none⟩ = some (.int .i64 s) := q2 8
  have HP := Lib.hid hP2
  clear q1 q2 fq1 fq2 ho1 ho2 c7 c8 hP hP2 hd
  go_wp2_with fail
  skip
  go_ret2
  refine ⟨?_, HP.out⟩
  rw [HE.out]
  rfl
theorem taglist_step (w : World) (b : MB) (σ : MemS) (hb : MemAt w b σ) (hfn : σ.notes.length < 1000000000) (F : Nat → Prop) (hA : Apart w b F) (t : Nat) (x : TL) (hx : TLAt w F t x) :
  Calls Tryz.prog 291 #[.pointer (some ⟨t, 0, none⟩), .pointer (some ⟨b.m, 0, none⟩)] w (TryPost w b F t (x.step σ).1 (x.step σ).2) := by
 by_cases hs : x.st = 0
 ·cases hn : x.nx with
  | th => exact taglist_step_th w b σ hb hfn F hA t x hx hn hs
  | ts => exact taglist_step_ts w b σ hb hfn F hA t x hx hn hs
  | tw n => exact taglist_step_tw w b σ hb hfn F hA t x hx n hn hs
  | gh => exact taglist_step_gh w b σ hb hfn F hA t x hx hn hs
  | gs => exact taglist_step_gs w b σ hb hfn F hA t x hx hn hs
  | gw => exact taglist_step_gw w b σ hb hfn F hA t x hx hn hs
 ·exact taglist_step_idle w b σ hb F hA t x hx hs
end Go.Proofs.YtgdoeoackhfikaaGreatDoor

namespace Go.Proofs.YtgdoeoackhfikaaGreatDoor
open Go.RowKit Go.Proofs.YtgdoeoackhfikaaGreatDoorW.PrintWords
set_option maxRecDepth 100000
set_option maxHeartbeats 4000000
set_option linter.unusedSimpArgs false
set_option linter.unusedVariables false
attribute [local go_sem] hs_other hs_alloc hs_falloc run_store_func run_makeFunc
attribute [local go_sem ↓] Go.wp_at_zero Go.wp_at_succ
theorem Take_Step (w : World) (b : MB) (σ : MemS) (hb : MemAt w b σ) (hfn : σ.notes.length < 1000000000) (F : Nat → Prop) (hA : Apart w b F) (t : Nat) (x : TL) (hx : TLAt w F t x) :
  Calls Tryz.prog 290 #[.pointer (some ⟨t, 0, none⟩), .pointer (some ⟨b.m, 0, none⟩)] w (TryPost w b F t (x.step σ).1 (x.step σ).2) := by
 go_enter Tryz.func290, Tryz.ntmps290
 go_wp2_with fail
 refine (taglist_step w b σ hb hfn F hA t x hx).mono ?_
 rintro e w1 ⟨rfl, hP⟩
 go_wp2
 go_ret2
 exact ⟨rfl, hP⟩
theorem Give_Step (w : World) (b : MB) (σ : MemS) (hb : MemAt w b σ) (hfn : σ.notes.length < 1000000000) (F : Nat → Prop) (hA : Apart w b F) (t : Nat) (x : TL) (hx : TLAt w F t x) :
  Calls Tryz.prog 296 #[.pointer (some ⟨t, 0, none⟩), .pointer (some ⟨b.m, 0, none⟩)] w (TryPost w b F t (x.step σ).1 (x.step σ).2) := by
 go_enter Tryz.func296, Tryz.ntmps296
 go_wp2_with fail
 refine (taglist_step w b σ hb hfn F hA t x hx).mono ?_
 rintro e w1 ⟨rfl, hP⟩
 go_wp2
 go_ret2
 exact ⟨rfl, hP⟩
def TryNew (w : World) (y : TL) (e : Ending) (w' : World) : Prop :=
 ∃ t, e = .returned (.pointer (some ⟨t, 0, none⟩)) ∧ w.heap.size ≤ t ∧ Kp (fun _ => False) w w' ∧ TLAt w' (fun k => w.heap.size ≤ k ∧ k < w'.heap.size) t y
theorem taglist_NewTake (c : LCfg) (hc : c.right) (at_ : Int) (w : World) :
  Calls Tryz.prog 211 #[c.v, .int .i64 at_] w (TryNew w (newTake c at_)) := by
 unfold LCfg.v
 go_enter Tryz.func211, Tryz.ntmps211
 go_wp2
 go_ret
 exact ⟨w.heap.size + 1, rfl, by omega, Kp.nb (by go_grown), ⟨⟨by omega, by simp⟩, ⟨_, hp_new _ _ _ (by simp), rfl⟩, by simp [newTake], by simp [newTake], hc, fun n e => by cases e⟩⟩
theorem taglist_NewGive (c : LCfg) (hc : c.right) (at_ i : Int) (hi : 0 ≤ i ∧ i < 4294967296) (w : World) :
  Calls Tryz.prog 252 #[c.v, .int .i64 at_, .int .u32 i] w (TryNew w (newGive c at_ i)) := by
 unfold LCfg.v
 go_enter Tryz.func252, Tryz.ntmps252
 go_wp2
 go_ret
 exact ⟨w.heap.size + 1, rfl, by omega, Kp.nb (by go_grown), ⟨⟨by omega, by simp⟩, ⟨_, hp_new _ _ _ (by simp), rfl⟩, hi, by simp [newGive], hc, fun n e => by cases e⟩⟩
end Go.Proofs.YtgdoeoackhfikaaGreatDoor

/-
  Parts of the proof of runnerSkips_holds: Source, SrcB, ArenaA, SrcC, ArenaB, ArenaE, SlotA, SlotB, ExchA, PolicyA, MemN, PolicyB, PolicyC, Concat.
-/
import Derived.Test.YtgdoeoackhfikaaGreatDoorQA2
import Derived.Test.YtgdoeoackhfikaaGreatDoorQA3
import Derived.Test.YtgdoeoackhfikaaGreatDoorQA4
import Derived.Deep.DrawnRows
import Derived.Test.YtgdoeoackhfikaaGreatDoorQA1
import Derived.Deep.RegionLaw
import Derived.Lib.AppendZeros
import Derived.LoopTactic
namespace Go.Proofs.YtgdoeoackhfikaaGreatDoor
set_option linter.unusedVariables false
set_option linter.unusedSimpArgs false
open Go.RowKit
set_option maxRecDepth 100000
theorem source_Tick (s : Nat) (now n : Int) (ds : Value) (w : World) (hs : w.heap[s]? = some (.cells #[.int .u64 now, ds] 138 (0, 0))) (h0 : 0 ≤ now ∧ now < 18446744073709551616) (hn : 0 ≤ n ∧ n < 18446744073709551616) :
  Calls Tryz.prog 83 #[.pointer (some ⟨s, 0, none⟩), .int .u64 n] w fun e w' => e = .returned (.tuple #[]) ∧ w' = w.setCell ⟨s, 0, none⟩ (.int .u64 (later now n)) := by
 have c0 : w.cell? ⟨s, 0, none⟩ = some (.int .u64 now) := by rw [Lib.cell_of_heap hs]; rfl
 have f1 : w.frozen? ⟨s, 0, none⟩ = false := Lib.frozen_of_heap hs 0
 have u1 : ∀ z : Int, 0 ≤ z → z < 18446744073709551616 → IntKind.u64.wrap z = z := fun z h1 h2 => by
  have : IntKind.u64.wrap z = z % 18446744073709551616 := by simp [IntKind.wrap, IntKind.bits, IntKind.signed]
  rw [this]; omega
 by_cases hc : 18446744073709551615 - now < n
 ·have e1 : later now n = 18446744073709551615 := by unfold later; omega
  rw [e1]
  go_enter Tryz.func83, Tryz.ntmps83
  go_wp2
  all_goals go_end0
  all_goals exact ⟨rfl, by congr 2; try omega⟩
 ·have e1 : later now n = now + n := by unfold later; omega
  rw [e1]
  go_enter Tryz.func83, Tryz.ntmps83
  go_wp2
  all_goals go_end0
  all_goals exact ⟨rfl, by first | rfl | (congr 2; omega)⟩
theorem source_Now (s : Nat) (now : Int) (ds : Value) (w : World) (hs : w.heap[s]? = some (.cells #[.int .u64 now, ds] 138 (0, 0))) :
  Calls Tryz.prog 17 #[.pointer (some ⟨s, 0, none⟩)] w fun e w' => e = .returned (.int .u64 now) ∧ w' = w := by
 have c0 : w.cell? ⟨s, 0, none⟩ = some (.int .u64 now) := by rw [Lib.cell_of_heap hs]; rfl
 go_enter Tryz.func17, Tryz.ntmps17
 go_wp2
 go_ret
 exact ⟨rfl, rfl⟩
theorem source_Add_no (s : Value) (d : Int) (w : World) (hd : 64 ≤ d) :
  Calls Tryz.prog 84 #[s, .int .u64 d] w fun e w' => e = .returned (.int .i64 1) ∧ w' = w := by
 go_enter Tryz.func84, Tryz.ntmps84
 go_wp2
 go_ret
 exact ⟨rfl, rfl⟩
end Go.Proofs.YtgdoeoackhfikaaGreatDoor

namespace Go.Proofs.YtgdoeoackhfikaaGreatDoor
open Go.RowKit Go.Proofs.YtgdoeoackhfikaaGreatDoorW.PrintWords
set_option maxRecDepth 100000
set_option maxHeartbeats 2000000
set_option linter.unusedSimpArgs false
set_option linter.unusedVariables false
attribute [local go_sem] hs_other hs_alloc hs_falloc
attribute [local go_sem ↓] Go.wp_at_zero Go.wp_at_succ
structure SrcAt (w : World) (s : Nat) (dv : Value) (r : SrcS) : Prop where
 own : w.heap[s]? = some (.cells #[.int .u64 r.now, dv] 138 (0, 0))
 row : w.ownsRow 0 3 1 dv r.draws.length (nums .i64 r.draws)
 range : 0 ≤ r.now ∧ r.now < 18446744073709551616
 dr : ∀ z ∈ r.draws, 0 ≤ z ∧ z < 64
theorem source_Draw_none (w : World) (s : Nat) (dv : Value) (r : SrcS) (h : SrcAt w s dv r) (n : Int) (hn : n < 1 ∨ r.draws = []) :
  Calls Tryz.prog 258 #[.pointer (some ⟨s, 0, none⟩), .int .i64 n] w fun e w' => e = .returned (.int .i64 0) ∧ Kp (fun _ => False) w w' := by
 by_cases h1 : n < 1
 ·have hd : decide (n < 1) = true := by simpa using h1
  go_enter Tryz.func258, Tryz.ntmps258
  go_wp2
  go_ret
  exact ⟨rfl, Kp.refl _ _⟩
 ·have hd : decide (n < 1) = false := by simpa using h1
  have hE : r.draws = [] := hn.resolve_left h1
  have hl : r.draws.length = 0 := by rw [hE]; rfl
  have hr := h.row
  obtain ⟨q, fq, lq⟩ := obj_cells h.own
  rcases hr.2 with ⟨rfl, h0⟩ | ⟨g, cap, cur, rfl, _⟩
  ·have c1 : w.cell? ⟨s, 1, none⟩ = some (.slice none 0 0) := q 1
   clear q fq hr
   go_enter Tryz.func258, Tryz.ntmps258
   go_wp2
   go_ret
   exact ⟨rfl, Kp.refl _ _⟩
  ·have c1 : w.cell? ⟨s, 1, none⟩ = some (.slice (some ⟨g, 0, none⟩) 0 cap) := by rw [q 1, hl]; rfl
   clear q fq hr
   go_enter Tryz.func258, Tryz.ntmps258
   go_wp2
   go_ret
   exact ⟨rfl, Kp.refl _ _⟩
end Go.Proofs.YtgdoeoackhfikaaGreatDoor

namespace Go.Proofs.YtgdoeoackhfikaaGreatDoor
open Go.RowKit Go.Proofs.YtgdoeoackhfikaaGreatDoorW.PrintWords
set_option maxRecDepth 100000
set_option maxHeartbeats 4000000
set_option linter.unusedSimpArgs false
set_option linter.unusedVariables false
attribute [local go_sem] hs_other hs_alloc hs_falloc run_store_func run_makeFunc
attribute [local go_sem ↓] Go.wp_at_zero Go.wp_at_succ
structure ShelfAt (w : World) (F : Nat → Prop) (v : Value) (xs : List Int) : Prop where
 row : w.ownsRow 0 30 1 v xs.length (nums .u32 xs)
 own : ∀ k, v.ownBlock = some k → F k
 range : ∀ z ∈ xs, 0 ≤ z ∧ z < 4294967296
theorem ShelfAt.kept {w W : World} {F F' : Nat → Prop} {v : Value} {xs : List Int} (h : ShelfAt w F v xs) (hk : ∀ k o, F k → w.heap[k]? = some o → W.heap[k]? = some o) (hF : ∀ k, F k → F' k) : ShelfAt W F' v xs := by
 refine ⟨row_step h.row fun k hv => ?_, fun k hv => hF k (h.own k hv), h.range⟩
 have hl := (h.row.lt k hv).2
 obtain ⟨o, ho⟩ : ∃ o, w.heap[k]? = some o := ⟨_, Array.getElem?_eq_getElem hl⟩
 rw [ho]
 exact hk k o (h.own k hv) ho
def FreshFn (w : World) (F : Nat → Prop) (x : TL) (fv : Value) : Prop :=
 if x.nx.isTake then ∃ bc, F bc ∧ fv = .func (.func 214) #[] #[.pointer (some ⟨bc, 0, none⟩)] ∧ w.heap[bc]? = some (.cells #[.int .i64 x.c.nodes, .int .i64 x.c.slots, .int .i64 x.c.holders, .int .u32 x.c.tag] 32 (0, 0)) ∧ x = newTake x.c 1
 else ∃ bc bi, F bc ∧ F bi ∧ fv = .func (.func 256) #[] #[.pointer (some ⟨bc, 0, none⟩), .pointer (some ⟨bi, 0, none⟩)] ∧ w.heap[bc]? = some (.cells #[.int .i64 x.c.nodes, .int .i64 x.c.slots, .int .i64 x.c.holders, .int .u32 x.c.tag] 32 (0, 0)) ∧ w.heap[bi]? = some (.cells #[.int .u32 x.i] 30 (0, 0)) ∧ x = newGive x.c 1 x.i
theorem FreshFn.kept {w W : World} {F F' : Nat → Prop} {x : TL} {fv : Value} (h : FreshFn w F x fv) (hk : ∀ k o, F k → w.heap[k]? = some o → W.heap[k]? = some o) (hF : ∀ k, F k → F' k) : FreshFn W F' x fv := by
 unfold FreshFn at *
 split at h
 ·rename_i hc
  rw [if_pos hc]
  obtain ⟨bc, h1, h2, h3, h4⟩ := h
  exact ⟨bc, hF _ h1, h2, hk _ _ h1 h3, h4⟩
 ·rename_i hc
  rw [if_neg hc]
  obtain ⟨bc, bi, h1, h2, h3, h4, h5, h6⟩ := h
  exact ⟨bc, bi, hF _ h1, hF _ h2, h3, hk _ _ h1 h4, hk _ _ h2 h5, h6⟩
theorem arena_fresh_take (w : World) (bc : Nat) (c : LCfg) (hc : c.right) (hb : w.heap[bc]? = some (.cells #[.int .i64 c.nodes, .int .i64 c.slots, .int .i64 c.holders, .int .u32 c.tag] 32 (0, 0))) :
  Calls Tryz.prog 214 #[.pointer (some ⟨bc, 0, none⟩)] w fun e w' => ∃ t, e = .returned (.iface 324 (.pointer (some ⟨t, 0, none⟩))) ∧ w.heap.size ≤ t ∧ Kp (fun _ => False) w w' ∧ TLAt w' (fun k => w.heap.size ≤ k ∧ k < w'.heap.size) t (newTake c 1) := by
 obtain ⟨q, _, lq⟩ := obj_cells hb
 have c0 : w.cell? ⟨bc, 0, none⟩ = some (.int .i64 c.nodes) := q 0
 have c1 : w.cell? ⟨bc, 1, none⟩ = some (.int .i64 c.slots) := q 1
 have c2 : w.cell? ⟨bc, 2, none⟩ = some (.int .i64 c.holders) := q 2
 have c3 : w.cell? ⟨bc, 3, none⟩ = some (.int .u32 c.tag) := q 3
 clear q
 have hnt := fun w => taglist_NewTake c hc 1 w
 unfold LCfg.v at hnt
 go_enter Tryz.func214, Tryz.ntmps214
 go_wp2_with fail
 refine (hnt _).mono ?_
 rintro e w1 ⟨t, rfl, ht, hk, hx⟩
 go_wp2
 go_ret
 exact ⟨t, rfl, ht, hk, hx⟩
theorem arena_fresh_give (w : World) (bc bi : Nat) (c : LCfg) (hc : c.right) (i : Int) (hi : 0 ≤ i ∧ i < 4294967296) (hb : w.heap[bc]? = some (.cells #[.int .i64 c.nodes, .int .i64 c.slots, .int .i64 c.holders, .int .u32 c.tag] 32 (0, 0))) (hbi : w.heap[bi]? = some (.cells #[.int .u32 i] 30 (0, 0))) :
  Calls Tryz.prog 256 #[.pointer (some ⟨bc, 0, none⟩), .pointer (some ⟨bi, 0, none⟩)] w fun e w' => ∃ t, e = .returned (.iface 379 (.pointer (some ⟨t, 0, none⟩))) ∧ w.heap.size ≤ t ∧ Kp (fun _ => False) w w' ∧ TLAt w' (fun k => w.heap.size ≤ k ∧ k < w'.heap.size) t (newGive c 1 i) := by
 obtain ⟨q, _, lq⟩ := obj_cells hb
 have c0 : w.cell? ⟨bc, 0, none⟩ = some (.int .i64 c.nodes) := q 0
 have c1 : w.cell? ⟨bc, 1, none⟩ = some (.int .i64 c.slots) := q 1
 have c2 : w.cell? ⟨bc, 2, none⟩ = some (.int .i64 c.holders) := q 2
 have c3 : w.cell? ⟨bc, 3, none⟩ = some (.int .u32 c.tag) := q 3
 obtain ⟨qi, _, lqi⟩ := obj_cells hbi
 have ci : w.cell? ⟨bi, 0, none⟩ = some (.int .u32 i) := qi 0
 clear q qi
 have hnt := fun w => taglist_NewGive c hc 1 i hi w
 unfold LCfg.v at hnt
 go_enter Tryz.func256, Tryz.ntmps256
 go_wp2_with fail
 refine (hnt _).mono ?_
 rintro e w1 ⟨t, rfl, ht, hk, hx⟩
 go_wp2
 go_ret
 exact ⟨t, rfl, ht, hk, hx⟩
theorem row_slice {w : World} {base : Nat} {e : TypeId} {size n : Nat} {v : Value} {xs : List Value} (h : w.ownsRow base e size v n xs) : ∃ A c, v = .slice A n c := by
 rcases h.2 with ⟨rfl, h0⟩ | ⟨g, cap, cur, rfl, _⟩
 ·exact ⟨none, 0, by rw [h0]⟩
 ·exact ⟨_, _, rfl⟩
theorem row_base {w : World} {base base' : Nat} {e : TypeId} {size n : Nat} {v : Value} {xs : List Value} (h : w.ownsRow base e size v n xs) (hb : base' ≤ base) : w.ownsRow base' e size v n xs := by
 obtain ⟨h1, h2⟩ := h
 refine ⟨h1, ?_⟩
 rcases h2 with h2 | ⟨g, cap, cur, hv, hg, r⟩
 ·exact .inl h2
 ·exact .inr ⟨g, cap, cur, hv, Nat.le_trans hb hg, r⟩
theorem set6 {W : World} {b : Nat} {t : TypeId} {c0 c1 c2 c3 c4 c5 v0 v1 v2 v3 v4 v5 : Value} (h : W.heap[b]? = some (.cells #[c0, c1, c2, c3, c4, c5] t (0, 0))) :
  ((((((W.setCell ⟨b, 0, none⟩ v0).setCell ⟨b, 1, none⟩ v1).setCell ⟨b, 2, none⟩ v2).setCell ⟨b, 3, none⟩ v3).setCell ⟨b, 4, none⟩ v4).setCell ⟨b, 5, none⟩ v5).heap[b]? = some (.cells #[v0, v1, v2, v3, v4, v5] t (0, 0)) := by
 have := hp_same _ b 5 v5 (hp_same _ b 4 v4 (hp_same _ b 3 v3 (hp_same _ b 2 v2 (hp_same _ b 1 v1 (hp_same _ b 0 v0 h)))))
 simpa using this
theorem kp6 (W : World) (b : Nat) (v0 v1 v2 v3 v4 v5 : Value) :
  Kp (fun k => k = b) W ((((((W.setCell ⟨b, 0, none⟩ v0).setCell ⟨b, 1, none⟩ v1).setCell ⟨b, 2, none⟩ v2).setCell ⟨b, 3, none⟩ v3).setCell ⟨b, 4, none⟩ v4).setCell ⟨b, 5, none⟩ v5) := by
 have h : ∀ (W W' : World) (o : Nat) (v : Value), Kp (fun k => k = b) W W' → Kp (fun k => k = b) W (W'.setCell ⟨b, o, none⟩ v) := fun _ _ o v h => Kp.setCell (p := ⟨b, o, none⟩) h (Or.inl rfl) v
 exact h _ _ _ _ (h _ _ _ _ (h _ _ _ _ (h _ _ _ _ (h _ _ _ _ (h _ _ _ _ (Kp.refl _ _))))))
theorem arena_begun (w : World) (F : Nat → Prop) (budget : Int) (hbu : -1000 ≤ budget ∧ budget ≤ 1000) (v : Value) (xs : List Int) (hs : ShelfAt w F v xs) (hl : xs.length ≤ 1000000) (fn : Fn) (first cap : Array Value) :
  Calls Tryz.prog 213 #[.int .i64 budget, v, .func fn first cap] w fun e w' => ∃ v', e = .returned (.agg #[.int .i64 (max budget 0), v', .func fn first cap, .nilIface, .int .i64 0, .int .u32 0]) ∧ Kp (fun _ => False) w w' ∧ ShelfAt w' (fun k => w.heap.size ≤ k ∧ k < w'.heap.size) v' xs := by
 have hcl := fun W (hk : Kp (fun _ => False) w W) => clone_u32 W 0 v xs.length (nums .u32 xs) (hk.row hs.row (fun _ _ e => e)) (by simp [nums, Value.oneCell']) (by omega)
 go_enter Tryz.func213, Tryz.ntmps213
 go_wp2_with fail
 ·skip
  refine (hcl _ (Kp.nb (by go_grown))).mono ?_
  rintro e w1 ⟨v', rfl, hr, hb1⟩
  have hK1 : Kp (fun _ => False) w w1 := (Kp.nb (w := w) (by go_grown)).comp (Kp.nb hb1) (fun _ _ e => e)
  obtain ⟨A, cc, rfl⟩ := row_slice hr
  have hbox : w1.heap[w.heap.size]? = some (.cells #[.int .i64 0, .slice none 0 0, .nilFunc, .nilIface, .int .i64 0, .int .u32 0] 331 (0, 0)) := obj_below hb1 (hp_new _ _ _ rfl)
  obtain ⟨q, fq, lq⟩ := obj_cells hbox
  have HR := Lib.hid hr
  have HB := Lib.hid hbox
  clear hr hbox
  go_wp2_with fail
  refine any_world (p := fun W => bodyPost _ _ _ _ _ W) ?_
  intro W hW
  have hX : W.heap[w.heap.size]? = some (.cells #[.int .i64 0, .slice A xs.length cc, .func fn first cap, .nilIface, .int .i64 0, .int .u32 0] 331 (0, 0)) := by rw [hW]; exact set6 HB.out
  have hKW : Kp (fun k => k = w.heap.size) w1 W := by rw [hW]; exact kp6 _ _ _ _ _ _ _ _
  obtain ⟨q2, fq2, lq2⟩ := obj_cells hX
  have HX := Lib.hid hX
  clear hW hX q fq
  refine bodyPost_ret (v := .agg #[.int .i64 0, .slice A xs.length cc, .func fn first cap, .nilIface, .int .i64 0, .int .u32 0]) (by simp [results, Tryz.results213, go_sem, q2]) rfl ?_
  have hs1 : (w.alloc (.cells #[.int .i64 0, .slice none 0 0, .nilFunc, .nilIface, .int .i64 0, .int .u32 0] 331)).heap.size = w.heap.size + 1 := by simp
  have hs2 := hKW.size
  have hr2 : W.ownsRow (w.heap.size + 1) 30 1 (.slice A xs.length cc) xs.length (nums .u32 xs) := hKW.row (by rw [← hs1]; exact HR.out) (fun k hk e => by have := (HR.out.lt k hk).1; rw [hs1] at this; omega)
  refine ⟨_, by rw [show max budget 0 = 0 from by omega], hK1.comp hKW (fun k hk e => by omega), row_base hr2 (Nat.zero_le _), fun k hk => ?_, hs.range⟩
  have := hr2.lt k hk
  omega
 ·skip
  refine (hcl _ (Kp.nb (by go_grown))).mono ?_
  rintro e w1 ⟨v', rfl, hr, hb1⟩
  have hK1 : Kp (fun _ => False) w w1 := (Kp.nb (w := w) (by go_grown)).comp (Kp.nb hb1) (fun _ _ e => e)
  obtain ⟨A, cc, rfl⟩ := row_slice hr
  have hbox : w1.heap[w.heap.size]? = some (.cells #[.int .i64 0, .slice none 0 0, .nilFunc, .nilIface, .int .i64 0, .int .u32 0] 331 (0, 0)) := obj_below hb1 (hp_new _ _ _ rfl)
  obtain ⟨q, fq, lq⟩ := obj_cells hbox
  have HR := Lib.hid hr
  have HB := Lib.hid hbox
  clear hr hbox
  go_wp2_with fail
  refine any_world (p := fun W => bodyPost _ _ _ _ _ W) ?_
  intro W hW
  have hX : W.heap[w.heap.size]? = some (.cells #[.int .i64 budget, .slice A xs.length cc, .func fn first cap, .nilIface, .int .i64 0, .int .u32 0] 331 (0, 0)) := by rw [hW]; exact set6 HB.out
  have hKW : Kp (fun k => k = w.heap.size) w1 W := by rw [hW]; exact kp6 _ _ _ _ _ _ _ _
  obtain ⟨q2, fq2, lq2⟩ := obj_cells hX
  have HX := Lib.hid hX
  clear hW hX q fq
  refine bodyPost_ret (v := .agg #[.int .i64 budget, .slice A xs.length cc, .func fn first cap, .nilIface, .int .i64 0, .int .u32 0]) (by simp [results, Tryz.results213, go_sem, q2]) rfl ?_
  have hs1 : (w.alloc (.cells #[.int .i64 0, .slice none 0 0, .nilFunc, .nilIface, .int .i64 0, .int .u32 0] 331)).heap.size = w.heap.size + 1 := by simp
  have hs2 := hKW.size
  have hr2 : W.ownsRow (w.heap.size + 1) 30 1 (.slice A xs.length cc) xs.length (nums .u32 xs) := hKW.row (by rw [← hs1]; exact HR.out) (fun k hk e => by have := (HR.out.lt k hk).1; rw [hs1] at this; omega)
  refine ⟨_, by rw [show max budget 0 = budget from by omega], hK1.comp hKW (fun k hk e => by omega), row_base hr2 (Nat.zero_le _), fun k hk => ?_, hs.range⟩
  have := hr2.lt k hk
  omega
end Go.Proofs.YtgdoeoackhfikaaGreatDoor

namespace Go.Proofs.YtgdoeoackhfikaaGreatDoor
open Go.RowKit Go.Proofs.YtgdoeoackhfikaaGreatDoorW.PrintWords
set_option maxRecDepth 100000
set_option maxHeartbeats 2000000
set_option linter.unusedSimpArgs false
set_option linter.unusedVariables false
attribute [local go_sem] hs_other hs_alloc hs_falloc
attribute [local go_sem ↓] Go.wp_at_zero Go.wp_at_succ
def SrcPost (w : World) (s : Nat) (dv : Value) (r' : SrcS) (w' : World) : Prop :=
 ∃ dv', SrcAt w' s dv' r' ∧ (∀ k, dv'.ownBlock = some k → dv.ownBlock = some k ∨ w.heap.size ≤ k) ∧ Kp (fun k => k = s ∨ dv.ownBlock = some k) w w'
theorem SrcAt.kept {S : Nat → Prop} {w W : World} {s : Nat} {dv : Value} {r : SrcS} (h : SrcAt w s dv r) (hk : Kp S w W) (hn : ∀ k, (k = s ∨ dv.ownBlock = some k) → ¬ S k) : SrcAt W s dv r :=
 ⟨hk.heap h.own (hn _ (.inl rfl)), hk.row h.row (fun k e => hn k (.inr e)), h.range, h.dr⟩
theorem SrcAt.lt {w : World} {s : Nat} {dv : Value} {r : SrcS} (h : SrcAt w s dv r) : ∀ k, (k = s ∨ dv.ownBlock = some k) → k < w.heap.size := fun k hk => by
 rcases hk with rfl | hk
 ·exact lt_of_heap h.own
 ·exact (h.row.lt k hk).2
theorem source_New (w : World) :
  Calls Tryz.prog 106 #[] w fun e w' => e = .returned (.pointer (some ⟨w.heap.size, 0, none⟩)) ∧ Kp (fun _ => False) w w' ∧ w.heap.size < w'.heap.size ∧ SrcAt w' w.heap.size (.slice none 0 0) ⟨0, []⟩ := by
 go_enter Tryz.func106, Tryz.ntmps106
 go_wp2
 go_ret
 exact ⟨rfl, Kp.nb (by go_grown), by simp, ⟨hp_new _ _ _ rfl, World.ownsRow_nil _ _ _ _, by simp, by simp⟩⟩
theorem source_Left (w : World) (s : Nat) (dv : Value) (r : SrcS) (h : SrcAt w s dv r) :
  Calls Tryz.prog 30 #[.pointer (some ⟨s, 0, none⟩)] w fun e w' => e = .returned (.int .i64 r.draws.length) ∧ w' = w := by
 obtain ⟨q, fq, lq⟩ := obj_cells h.own
 obtain ⟨A, cc, hv⟩ := row_slice h.row
 have c1 : w.cell? ⟨s, 1, none⟩ = some (.slice A r.draws.length cc) := by rw [q 1, hv]; rfl
 clear q fq hv
 go_enter Tryz.func30, Tryz.ntmps30
 go_wp2
 go_ret
 exact ⟨rfl, rfl⟩
theorem info_int : (Tryz.prog.info? 3).map (fun i => (i.zero, i.size, i.bytes)) = some (some (.int .i64 0), 1, 8) := by kernel_rfl
theorem source_Add (w : World) (s : Nat) (dv : Value) (r : SrcS) (h : SrcAt w s dv r) (hl : r.draws.length ≤ 1000000000) (d : Int) (hd : 0 ≤ d ∧ d < 64) :
  Calls Tryz.prog 84 #[.pointer (some ⟨s, 0, none⟩), .int .u64 d] w fun e w' => e = .returned (.int .i64 0) ∧ SrcPost w s dv { r with draws := r.draws ++ [d] } w' := by
 have hdd : decide (64 ≤ d) = false := decide_eq_false (by omega)
 have hz : IntKind.i64.wrap d = d := by
  simp [IntKind.wrap, IntKind.bits, IntKind.signed]; omega
 have hr := h.row
 obtain ⟨q, fq, lq⟩ := obj_cells h.own
 obtain ⟨A, cc, hv⟩ := row_slice hr
 subst hv
 have c1 : w.cell? ⟨s, 1, none⟩ = some (.slice A r.draws.length cc) := q 1
 have f1 : w.frozen? ⟨s, 1, none⟩ = false := fq 1
 have HO := Lib.hid h.own
 have hab : ∀ k, (Value.slice A r.draws.length cc).ownBlock = some k → k ≠ s := ne_of_row HO.out hr (by decide)
 have n1 : some s ≠ (Value.slice A r.draws.length cc).ownBlock := fun e => hab s e.symm rfl
 obtain ⟨i0, hi, hz0, hz1, hz2⟩ := info_parts info_int
 have HR := Lib.hid hr
 have H := Lib.hid h
 have HD := Lib.hid hd
 clear hr h hab q fq
 have hnew : ∀ j u, ([.int .i64 d] : List Value)[j]? = some u → (w.alloc (.cells #[.int .i64 d] 3)).cell? ((⟨w.heap.size, 0, none⟩ : Addr).add j) = some u := World.news_of_block (heap_alloc_new _ _)
 have HN := Lib.hid hnew
 clear hnew
 go_enter Tryz.func84, Tryz.ntmps84
 go_wp2_with (at_builtin; refine wpList_append_lies _ rfl _ _ 113 rfl 0 3 i0 _ 1 8 Tryz.underlying113 hi hz0 hz1 hz2 rfl (by decide) (.slice A r.draws.length cc) r.draws.length _ rfl (row_alloc HR.out _) ⟨w.heap.size, 0, none⟩ 1 1 [.int .i64 d] rfl rfl HN.out (by simp [Value.oneCell']) (by omega) (by unfold maxLen; omega) (by omega) (by simp) _ rfl ?_)
 intro g' cap' W3 hown3 hgrow hat hlt
 have q1 := hgrow.cell (kc _ c1) n1
 have q2 := gf hgrow n1 (by simp; omega) (kf _ lq f1)
 have hO3 : W3.heap[s]? = some (.cells #[.int .u64 r.now, .slice A r.draws.length cc] 138 (0, 0)) := (hgrow.block s (by simp; omega) n1).trans ((hp_alloc _ _ _ lq).trans HO.out)
 have HOWN := Lib.hid hown3
 have HG := Lib.hid hgrow
 clear hown3 hgrow
 go_wp2_with fail
 go_ret
 refine ⟨rfl, .slice (some ⟨g', 0, none⟩) (r.draws.length + 1) cap', ⟨hp_same _ s 1 _ hO3, ?_, H.out.range, ?_⟩, ?_, ?_⟩
 ·have e : nums .i64 (r.draws ++ [d]) = nums .i64 r.draws ++ [.int .i64 d] := by simp [nums]
  show World.ownsRow _ 0 3 1 _ (r.draws ++ [d]).length (nums .i64 (r.draws ++ [d]))
  rw [e, List.length_append]
  refine row_setCell HOWN.out _ (fun k hk e => ?_) _
  injection hk with hk
  have hk : k = g' := hk.symm
  subst hk
  rcases hat with h | h
  ·exact n1 (by rw [h, e])
  ·have := lq; have e : k = s := e; omega
 ·intro z hz
  rcases List.mem_append.1 hz with h | h
  ·exact H.out.dr z h
  ·rw [List.mem_singleton.1 h]; exact HD.out
 ·intro k hk
  injection hk with hk
  have hk : k = g' := hk.symm
  subst hk
  rcases hat with h | h
  ·exact .inl h
  ·exact .inr (by omega)
 ·have k3 : Kp (fun k => k = s ∨ (Value.slice A r.draws.length cc).ownBlock = some k) w W3 := (((Kp.refl _ w).alloc _)).grown HG.out (fun k _ e => .inr e)
  exact k3.st (S := fun k => k = s ∨ (Value.slice A r.draws.length cc).ownBlock = some k) (.inl (.inl rfl)) 1 _
end Go.Proofs.YtgdoeoackhfikaaGreatDoor

namespace Go.Proofs.YtgdoeoackhfikaaGreatDoor
open Go.RowKit Go.Proofs.YtgdoeoackhfikaaGreatDoorW.PrintWords
set_option maxRecDepth 100000
set_option maxHeartbeats 4000000
set_option linter.unusedSimpArgs false
set_option linter.unusedVariables false
attribute [local go_sem] hs_other hs_alloc hs_falloc run_store_func run_makeFunc
attribute [local go_sem ↓] Go.wp_at_zero Go.wp_at_succ
def NowAt (w : World) (F : Nat → Prop) (x : Option TL) (v : Value) : Prop :=
 match x with
 | none => v = .nilIface
 | some x => ∃ t, v = .iface (if x.nx.isTake then 324 else 379) (.pointer (some ⟨t, 0, none⟩)) ∧ TLAt w F t x
def trCells (σ : TR) (sv fv nv : Value) (nd : Option Int) : Array Value :=
 match nd with
 | none => #[.int .i64 σ.left, sv, fv, nv, .int .i64 σ.st, .int .u32 σ.i]
 | some n => #[.int .i64 σ.left, sv, fv, nv, .int .i64 σ.st, .int .u32 σ.i, .int .u32 n]
def trTy (nd : Option Int) : TypeId := match nd with | none => 334 | some _ => 370
def FnApart (sv fv : Value) : Prop := ∀ K ff bc bi, fv = .func K ff #[.pointer (some ⟨bc, 0, none⟩), .pointer (some ⟨bi, 0, none⟩)] → sv.ownBlock ≠ some bi
structure TRAt (w : World) (F : Nat → Prop) (a : Nat) (nd : Option Int) (σ : TR) : Prop where
 own : F a
 obj : ∃ sv fv nv, w.heap[a]? = some (.cells (trCells σ sv fv nv nd) (trTy nd) (0, 0)) ∧ ShelfAt w F sv σ.shelf ∧ FreshFn w F σ.fresh fv ∧ NowAt w F σ.now nv
 kind : σ.fresh.nx.isTake = nd.isNone
 kindN : ∀ x, σ.now = some x → x.nx.isTake = nd.isNone
 right : σ.fresh.c.right
 ri : 0 ≤ σ.i ∧ σ.i < 4294967296
 rf : 0 ≤ σ.fresh.i ∧ σ.fresh.i < 4294967296
 ap : ∃ sv fv, w.cell? ⟨a, 1, none⟩ = some sv ∧ w.cell? ⟨a, 2, none⟩ = some fv ∧ FnApart sv fv
theorem ap_of {w : World} {a : Nat} {nd : Option Int} {σ : TR} {sv fv nv : Value} (ho : w.heap[a]? = some (.cells (trCells σ sv fv nv nd) (trTy nd) (0, 0))) (h : FnApart sv fv) : ∃ sv fv, w.cell? ⟨a, 1, none⟩ = some sv ∧ w.cell? ⟨a, 2, none⟩ = some fv ∧ FnApart sv fv :=
 ⟨sv, fv, by rw [Lib.cell_of_heap ho]; cases nd <;> rfl, by rw [Lib.cell_of_heap ho]; cases nd <;> rfl, h⟩
theorem of_ap {w : World} {a : Nat} {nd : Option Int} {σ : TR} {sv fv nv : Value} (ho : w.heap[a]? = some (.cells (trCells σ sv fv nv nd) (trTy nd) (0, 0))) (h : ∃ sv fv, w.cell? ⟨a, 1, none⟩ = some sv ∧ w.cell? ⟨a, 2, none⟩ = some fv ∧ FnApart sv fv) : FnApart sv fv := by
 obtain ⟨s', f', c1, c2, hap⟩ := h
 have d1 : w.cell? ⟨a, 1, none⟩ = some sv := by rw [Lib.cell_of_heap ho]; cases nd <;> rfl
 have d2 : w.cell? ⟨a, 2, none⟩ = some fv := by rw [Lib.cell_of_heap ho]; cases nd <;> rfl
 rw [d1] at c1
 rw [d2] at c2
 injection c1 with c1
 injection c2 with c2
 rw [c1, c2]
 exact hap
theorem NowAt.kept {w W : World} {F F' : Nat → Prop} {x : Option TL} {v : Value} (h : NowAt w F x v) (hk : ∀ k o, F k → w.heap[k]? = some o → W.heap[k]? = some o) (hF : ∀ k, F k → F' k) : NowAt W F' x v := by
 cases x with
 | none => exact h
 | some x => obtain ⟨t, h1, h2⟩ := h; exact ⟨t, h1, h2.kept hk hF⟩
theorem TRAt.kept {w W : World} {F F' : Nat → Prop} {a : Nat} {nd : Option Int} {σ : TR} (h : TRAt w F a nd σ) (hk : ∀ k o, F k → w.heap[k]? = some o → W.heap[k]? = some o) (hF : ∀ k, F k → F' k) : TRAt W F' a nd σ := by
 obtain ⟨sv, fv, nv, ho, h1, h2, h3⟩ := h.obj
 exact ⟨hF _ h.own, ⟨sv, fv, nv, hk _ _ h.own ho, h1.kept hk hF, h2.kept hk hF, h3.kept hk hF⟩, h.kind, h.kindN, h.right, h.ri, h.rf, ap_of (hk _ _ h.own ho) (of_ap ho h.ap)⟩
def TriesPost (w : World) (b : MB) (F : Nat → Prop) (a : Nat) (nd : Option Int) (y : TR) (σ' : MemS) (e : Ending) (w' : World) : Prop :=
 e = .returned (.tuple #[.int .i64 y.st, .int .u32 y.i]) ∧ Post F w b σ' w' (fun W F' => TRAt W F' a nd y)
theorem tries_goOn_idle (w : World) (b : MB) (σ : MemS) (hb : MemAt w b σ) (F : Nat → Prop) (hA : Apart w b F) (a : Nat) (nd : Option Int) (x : TR) (hx : TRAt w F a nd x) (hs : x.st ≠ 0) :
  Calls Tryz.prog 248 #[.pointer (some ⟨a, 0, none⟩), .pointer (some ⟨b.m, 0, none⟩)] w (TriesPost w b F a nd (x.goOn σ).1 (x.goOn σ).2) := by
 have e : x.goOn σ = (x, σ) := by unfold TR.goOn; rw [if_pos hs]
 rw [e]
 clear e
 obtain ⟨sv, fv, nv, ho, h1, h2, h3⟩ := hx.obj
 obtain ⟨q, fq, lq⟩ := obj_cells ho
 have c4 : w.cell? ⟨a, 4, none⟩ = some (.int .i64 x.st) := by rw [q 4]; cases nd <;> rfl
 have c5 : w.cell? ⟨a, 5, none⟩ = some (.int .u32 x.i) := by rw [q 5]; cases nd <;> rfl
 clear q fq ho h1 h2 h3
 have t0 : (x.st != 0) = true := by rw [bne_iff_ne]; exact hs
 go_enter Tryz.func248, Tryz.ntmps248
 go_wp2
 go_region_held3 (fun w' => w'.cell? ⟨a, 4, none⟩ = some (.int .i64 x.st) ∧ w'.cell? ⟨a, 5, none⟩ = some (.int .u32 x.i)) (exact ⟨c4, c5⟩) (fail)
 go_wp2
 go_ret2
 exact ⟨rfl, Post.mk0 hb hA (Kp.refl _ _).drew (fun F' h1 h2 => hx.kept (fun _ _ _ h => h) h1)⟩
theorem Post.outer {F F0 : Nat → Prop} {w w1 w' : World} {b : MB} {σ σ' : MemS} {X0 X : World → (Nat → Prop) → Prop} (hb : MemAt w b σ) (hA : Apart w b F) (h0 : ∀ k, F0 k → F k) (hP : Post F0 w b σ' w1 X0) (hk : Kp F w1 w')
  (hX : ∀ F1 F' : Nat → Prop, (∀ k, F1 k → F0 k ∨ w.heap.size ≤ k) → (∀ k, F1 k → F' k) → (∀ k, F k → F' k) → (∀ k, w1.heap.size ≤ k → k < w'.heap.size → F' k) → Kp (fun k => F0 k ∨ b.has k) w w1 → X0 w1 F1 → X w' F') : Post F w b σ' w' X := by
 obtain ⟨nv', hm, hn, hkm, hx⟩ := hP
 have s1 := hkm.size
 have s2 := hk.size
 have hn1 : ∀ k, nv'.ownBlock = some k → k < w1.heap.size := fun k h => (hm.notes.lt k h).2
 refine ⟨nv', hm.kept hk (fun k hk' hF => ?_), hn, (hkm.mono (S2 := fun k => F k ∨ b.has k) (fun k e => e.imp (h0 k) id)).comp hk (fun _ _ e => .inl e), hX (grownF F0 w w1 nv') _ (fun k h => h.imp id (fun h => h.1)) (fun k h => ?_) (fun k h => .inl h) (fun k h1 h2 => .inr ⟨by omega, h2, fun e => ?_⟩) hkm hx⟩
 ·have hl := hA.lt k hF
  rcases hk' with h | h | h
  ·exact hA.ne k hF (.inl h)
  ·exact hA.ne k hF (.inr (.inl h))
  ·rcases hn k h with h | h
   ·exact hA.ne k hF (.inr (.inr h))
   ·omega
 ·rcases h with h | ⟨h1, h2, h3⟩
  ·exact .inl (h0 k h)
  ·exact .inr ⟨h1, by omega, h3⟩
 ·have := hn1 k e; omega
theorem Post.outer2 {F F0 : Nat → Prop} {w w0 w1 w' : World} {b : MB} {σ σ' : MemS} {X0 X : World → (Nat → Prop) → Prop} (hb : MemAt w b σ) (hA : Apart w b F) (hk0 : Kp F w w0) (h0 : ∀ k, F0 k → F k ∨ (w.heap.size ≤ k ∧ k < w0.heap.size)) (hP : Post F0 w0 b σ' w1 X0) (hk : Kp F w1 w')
  (hX : ∀ F1 F' : Nat → Prop, (∀ k, F1 k → F0 k ∨ w0.heap.size ≤ k) → (∀ k, F1 k → F' k) → (∀ k, F k → F' k) → (∀ k, w.heap.size ≤ k → k < w0.heap.size → F' k) → (∀ k, w1.heap.size ≤ k → k < w'.heap.size → F' k) → Kp (fun k => F0 k ∨ b.has k) w0 w1 → X0 w1 F1 → X w' F') : Post F w b σ' w' X := by
 obtain ⟨nv', hm, hn, hkm, hx⟩ := hP
 have s0 := hk0.size
 have s1 := hkm.size
 have s2 := hk.size
 have hn1 : ∀ k, nv'.ownBlock = some k → k < w1.heap.size := fun k h => (hm.notes.lt k h).2
 have hb0 : ∀ k, b.has k → k < w.heap.size := hb.lt
 refine ⟨nv', hm.kept hk (fun k hk' hF => ?_), fun k h => (hn k h).imp id (fun h => by omega), (((hk0.mono (S2 := fun k => F k ∨ b.has k) (fun _ e => .inl e)).comp hkm (fun k hk' e => ?_)).comp hk (fun _ _ e => .inl e)), hX (grownF F0 w0 w1 nv') _ (fun k h => h.imp id (fun h => h.1)) (fun k h => ?_) (fun k h => .inl h) (fun k h1 h2 => .inr ⟨h1, by omega, fun e => ?_⟩) (fun k h1 h2 => .inr ⟨by omega, h2, fun e => ?_⟩) hkm hx⟩
 ·have hl := hA.lt k hF
  rcases hk' with h | h | h
  ·exact hA.ne k hF (.inl h)
  ·exact hA.ne k hF (.inr (.inl h))
  ·rcases hn k h with h | h
   ·exact hA.ne k hF (.inr (.inr h))
   ·omega
 ·rcases e with e | e
  ·rcases h0 k e with h | h
   ·exact .inl h
   ·omega
  ·exact .inr e
 ·rcases h with h | ⟨h1, h2, h3⟩
  ·rcases h0 k h with h | ⟨h1, h2⟩
   ·exact .inl h
   ·refine .inr ⟨h1, by omega, fun e => ?_⟩
    rcases hn k e with h | h
    ·have := hb0 k (.inr (.inr h)); omega
    ·omega
  ·exact .inr ⟨by omega, by omega, h3⟩
 ·rcases hn k e with h | h
  ·have := hb0 k (.inr (.inr h)); omega
  ·omega
 ·have := hn1 k e; omega
def tlBlk (w : World) (F : Nat → Prop) (k : Nat) : Prop := F k ∧ ∃ cs u, w.heap[k]? = some (.cells cs u (0, 0)) ∧ (u = 339 ∨ u = 387 ∨ u = 324 ∨ u = 379 ∨ u = 33)
theorem TLAt.small {w : World} {F : Nat → Prop} {t : Nat} {x : TL} (h : TLAt w F t x) : TLAt w (tlBlk w F) t x := by
 obtain ⟨fv, ho, hn⟩ := h.obj
 refine ⟨⟨h.own, _, _, ho, ?_⟩, ⟨fv, ho, ?_⟩, h.ri, h.rw, h.right, h.rn⟩
 ·unfold TL.ty; cases x.nx.isTake <;> simp
 ·cases hx : x.nx with
  | th => rw [hx] at hn; exact hn
  | ts => rw [hx] at hn; exact hn
  | gh => rw [hx] at hn; exact hn
  | gs => rw [hx] at hn; exact hn
  | tw n => rw [hx] at hn; obtain ⟨bt, bn, h1, h2, h3, h4, h5⟩ := hn; exact ⟨bt, bn, ⟨h1, _, _, h4, by simp⟩, ⟨h2, _, _, h5, by simp⟩, h3, h4, h5⟩
  | gw => rw [hx] at hn; obtain ⟨bt, h1, h3, h4⟩ := hn; exact ⟨bt, ⟨h1, _, _, h4, by simp⟩, h3, h4⟩
theorem not_tlBlk {w : World} {F : Nat → Prop} {k : Nat} {cs : Array Value} {u : TypeId} {f : Nat × Nat} (h : w.heap[k]? = some (.cells cs u f)) (h1 : u ≠ 339) (h2 : u ≠ 387) (h3 : u ≠ 324) (h4 : u ≠ 379) (h5 : u ≠ 33) : ¬ tlBlk w F k := by
 rintro ⟨_, cs', u', h', hu⟩
 rw [h] at h'
 injection h' with h'
 injection h' with _ hu'
 subst hu'
 rcases hu with hu | hu | hu | hu | hu
 ·exact h1 hu
 ·exact h2 hu
 ·exact h3 hu
 ·exact h4 hu
 ·exact h5 hu
theorem Apart.small {w : World} {b : MB} {F F0 : Nat → Prop} (h : Apart w b F) (hs : ∀ k, F0 k → F k) : Apart w b F0 := ⟨fun k hk => h.ne k (hs k hk), fun k hk => h.lt k (hs k hk)⟩
theorem FreshFn.kept' {w W : World} {F F' : Nat → Prop} {x : TL} {fv : Value} (h : FreshFn w F x fv) (hk : ∀ k cs u, F k → w.heap[k]? = some (.cells cs u (0, 0)) → (u = 32 ∨ u = 30) → W.heap[k]? = some (.cells cs u (0, 0))) (hF : ∀ k, F k → F' k) : FreshFn W F' x fv := by
 unfold FreshFn at *
 split at h
 ·rename_i hc
  rw [if_pos hc]
  obtain ⟨bc, h1, h2, h3, h4⟩ := h
  exact ⟨bc, hF _ h1, h2, hk _ _ _ h1 h3 (.inl rfl), h4⟩
 ·rename_i hc
  rw [if_neg hc]
  obtain ⟨bc, bi, h1, h2, h3, h4, h5, h6⟩ := h
  exact ⟨bc, bi, hF _ h1, hF _ h2, h3, hk _ _ _ h1 h4 (.inl rfl), hk _ _ _ h2 h5 (.inr rfl), h6⟩
theorem ShelfAt.kept' {w W : World} {F F' : Nat → Prop} {v : Value} {xs : List Int} (h : ShelfAt w F v xs) (hk : ∀ k cs u, F k → w.heap[k]? = some (.cells cs u (0, 0)) → u = 30 → W.heap[k]? = some (.cells cs u (0, 0))) (hF : ∀ k, F k → F' k) : ShelfAt W F' v xs := by
 refine ⟨?_, fun k hv => hF k (h.own k hv), h.range⟩
 obtain ⟨h1, h2⟩ := h.row
 refine ⟨h1, ?_⟩
 rcases h2 with h2 | ⟨g, cap, cur, hv, hg, hh, r⟩
 ·exact .inl h2
 ·exact .inr ⟨g, cap, cur, hv, hg, hk g _ _ (h.own g (by rw [hv]; rfl)) hh rfl, r⟩
end Go.Proofs.YtgdoeoackhfikaaGreatDoor

namespace Go.Proofs.YtgdoeoackhfikaaGreatDoor
open Go.RowKit Go.Proofs.YtgdoeoackhfikaaGreatDoorW.PrintWords
set_option maxRecDepth 100000
set_option maxHeartbeats 4000000
set_option linter.unusedSimpArgs false
set_option linter.unusedVariables false
attribute [local go_sem] hs_other hs_alloc hs_falloc run_store_func run_makeFunc
attribute [local go_sem ↓] Go.wp_at_zero Go.wp_at_succ
theorem arena_kept (w : World) (F : Nat → Prop) (a : Nat) (nd : Option Int) (x : TR) (hx : TRAt w F a nd x) (hl : x.shelf.length ≤ 1000000) :
  Calls Tryz.prog 249 #[.pointer (some ⟨a, 0, none⟩)] w fun e w' => ∃ v', e = .returned v' ∧ Kp (fun _ => False) w w' ∧ ShelfAt w' (fun k => w.heap.size ≤ k ∧ k < w'.heap.size) v' x.shelf := by
 obtain ⟨sv, fv, nv, ho, h1, h2, h3⟩ := hx.obj
 have hcl := fun W (hk : Kp (fun _ => False) w W) => clone_u32 W 0 sv x.shelf.length (nums .u32 x.shelf) (hk.row h1.row (fun _ _ e => e)) (by simp [nums, Value.oneCell']) (by omega)
 obtain ⟨q, fq, lq⟩ := obj_cells ho
 obtain ⟨A, cc, rfl⟩ := row_slice h1.row
 have c1 : w.cell? ⟨a, 1, none⟩ = some (.slice A x.shelf.length cc) := by rw [q 1]; cases nd <;> rfl
 have hrg := h1.range
 clear q fq ho h1 h2 h3
 go_enter Tryz.func249, Tryz.ntmps249
 go_wp2_with fail
 refine (hcl _ (Kp.nb (by go_grown))).mono ?_
 rintro e w1 ⟨v', rfl, hr, hb1⟩
 have hK1 : Kp (fun _ => False) w w1 := Kp.nb hb1
 obtain ⟨A', cc', rfl⟩ := row_slice hr
 go_wp2
 go_ret
 exact ⟨_, rfl, hK1, row_base hr (Nat.zero_le _), fun k hk => hr.lt k hk, hrg⟩
theorem arena_TakeShelf (w : World) (F : Nat → Prop) (a : Nat) (nd : Option Int) (x : TR) (hx : TRAt w F a nd x) (hl : x.shelf.length ≤ 1000000) :
  Calls Tryz.prog 235 #[.pointer (some ⟨a, 0, none⟩)] w fun e w' => ∃ v', e = .returned v' ∧ Kp (fun _ => False) w w' ∧ ShelfAt w' (fun k => w.heap.size ≤ k ∧ k < w'.heap.size) v' x.shelf := by
 go_enter Tryz.func235, Tryz.ntmps235
 go_wp2_with fail
 refine (arena_kept w F a nd x hx hl).mono ?_
 rintro e w1 ⟨v', rfl, hk, hs⟩
 go_wp2
 go_ret
 exact ⟨_, rfl, hk, hs⟩
theorem arena_GiveShelf (w : World) (F : Nat → Prop) (a : Nat) (nd : Option Int) (x : TR) (hx : TRAt w F a nd x) (hl : x.shelf.length ≤ 1000000) :
  Calls Tryz.prog 239 #[.pointer (some ⟨a, 0, none⟩)] w fun e w' => ∃ v', e = .returned v' ∧ Kp (fun _ => False) w w' ∧ ShelfAt w' (fun k => w.heap.size ≤ k ∧ k < w'.heap.size) v' x.shelf := by
 go_enter Tryz.func239, Tryz.ntmps239
 go_wp2_with fail
 refine (arena_kept w F a nd x hx hl).mono ?_
 rintro e w1 ⟨v', rfl, hk, hs⟩
 go_wp2
 go_ret
 exact ⟨_, rfl, hk, hs⟩
def TriesNew (w : World) (nd : Option Int) (y : TR) (e : Ending) (w' : World) : Prop :=
 ∃ a, e = .returned (.pointer (some ⟨a, 0, none⟩)) ∧ w.heap.size ≤ a ∧ Kp (fun _ => False) w w' ∧ TRAt w' (fun k => w.heap.size ≤ k ∧ k < w'.heap.size) a nd y
theorem arena_NewTake (w : World) (c : LCfg) (hc : c.right) (F : Nat → Prop) (budget : Int) (hbu : -1000 ≤ budget ∧ budget ≤ 1000) (v : Value) (xs : List Int) (hs : ShelfAt w F v xs) (hl : xs.length ≤ 1000000) :
  Calls Tryz.prog 210 #[c.v, .int .i64 budget, v] w (TriesNew w none (newTries budget xs (newTake c 1))) := by
 have hbe := fun W (hk : Kp (fun _ => False) w W) fn first cap => arena_begun W F budget hbu v xs (hs.kept (fun k o hk' ho => hk.heap ho (fun e => e)) (fun _ h => h)) hl fn first cap
 obtain ⟨A, cc, rfl⟩ := row_slice hs.row
 unfold LCfg.v
 go_enter Tryz.func210, Tryz.ntmps210
 go_wp2_with fail
 refine (hbe _ (Kp.nb (by go_grown)) _ _ _).mono ?_
 rintro e w1 ⟨v', rfl, hk1, hs1⟩
 obtain ⟨A', cc', rfl⟩ := row_slice hs1.row
 have hkw : Kp (fun _ => False) w w1 := (Kp.nb (w := w) (by go_grown)).comp hk1 (fun _ _ e => e)
 have hcf : w1.heap[w.heap.size]? = some (.cells #[.int .i64 c.nodes, .int .i64 c.slots, .int .i64 c.holders, .int .u32 c.tag] 32 (0, 0)) := hk1.heap (hp_new _ _ _ rfl) (fun e => e)
 have hl1 : w.heap.size < w1.heap.size := lt_of_heap hcf
 have HC := Lib.hid hcf
 have HS := Lib.hid hs1
 clear hcf hs1 hs
 go_wp2_with fail
 go_ret
 refine ⟨w1.heap.size, rfl, Nat.le_of_lt hl1, hkw.alloc _, ⟨⟨Nat.le_of_lt hl1, by simp⟩, ⟨_, _, .nilIface, hp_new _ _ _ rfl, HS.out.kept (fun k o hk ho => (hp_alloc _ _ _ (lt_of_heap ho)).trans ho) (fun k hk => ⟨by have h1 : (w.alloc _).heap.size ≤ k := hk.1; rw [World.size_alloc] at h1; omega, by have h2 : k < w1.heap.size := hk.2; rw [World.size_alloc]; omega⟩), ?_, rfl⟩, rfl, (fun x hx => by cases hx), hc, by simp [newTries], by simp [newTries, newTake], ap_of (σ := newTries budget xs (newTake c 1)) (nd := none) (nv := .nilIface) (hp_new _ _ _ rfl) (fun K ff bc bi h => by simp at h)⟩⟩
 exact ⟨w.heap.size, ⟨Nat.le_refl _, by simp; omega⟩, rfl, (hp_alloc _ _ _ hl1).trans HC.out, rfl⟩
theorem arena_NewGive (w : World) (c : LCfg) (hc : c.right) (F : Nat → Prop) (budget : Int) (hbu : -1000 ≤ budget ∧ budget ≤ 1000) (v : Value) (xs : List Int) (hs : ShelfAt w F v xs) (hl : xs.length ≤ 1000000) (i : Int) (hi : 0 ≤ i ∧ i < 4294967296) :
  Calls Tryz.prog 253 #[c.v, .int .i64 budget, v, .int .u32 i] w (TriesNew w (some i) (newTries budget xs (newGive c 1 i))) := by
 have hbe := fun W (hk : Kp (fun _ => False) w W) fn first cap => arena_begun W F budget hbu v xs (hs.kept (fun k o hk' ho => hk.heap ho (fun e => e)) (fun _ h => h)) hl fn first cap
 obtain ⟨A, cc, rfl⟩ := row_slice hs.row
 unfold LCfg.v
 go_enter Tryz.func253, Tryz.ntmps253
 go_wp2
 refine wp_world ?_
 intro W hW
 have hkW : Kp (fun _ => False) w W := by rw [hW]; exact Kp.nb (by go_grown)
 have hcW : W.heap[w.heap.size]? = some (.cells #[.int .i64 c.nodes, .int .i64 c.slots, .int .i64 c.holders, .int .u32 c.tag] 32 (0, 0)) := by rw [hW, hp_alloc _ _ _ (by simp)]; exact hp_new _ _ _ rfl
 have hiW : W.heap[w.heap.size + 1]? = some (.cells #[.int .u32 i] 30 (0, 0)) := by rw [hW]; exact hp_new _ _ _ (by simp)
 have hsW : w.heap.size + 2 ≤ W.heap.size := by rw [hW]; simp
 obtain ⟨qi, _, _⟩ := obj_cells hiW
 have ci : W.cell? ⟨w.heap.size + 1, 0, none⟩ = some (.int .u32 i) := qi 0
 have HC := Lib.hid hcW
 have HI := Lib.hid hiW
 have HbW := Lib.hid (hbe W.drew hkW.drew)
 clear hW hcW hiW qi hbe
 go_region_held3 (fun w' => w'.cell? ⟨w.heap.size + 1, 0, none⟩ = some (.int .u32 i))
  (first | exact ci | exact hk1.cell ci (fun e => e) | exact kc _ (hk1.cell ci (fun e => e)))
  ((go_at_call 213; refine (HbW.out _ _ _).mono ?_; rintro e w1 ⟨v', rfl, hk1', hs1⟩; have hk1 := Kp.undrew hk1'; obtain ⟨A', cc', rfl⟩ := row_slice hs1.row))
 have hcf := hk1.heap HC.out (fun e => e)
 have hif := hk1.heap HI.out (fun e => e)
 have hl1 := hk1.size
 have HCF := Lib.hid hcf
 have HIF := Lib.hid hif
 have HS := Lib.hid hs1
 clear hcf hif hs1 hs
 go_wp2
 go_ret
 refine ⟨w1.heap.size, rfl, by omega, (hkW.comp hk1 (fun _ _ e => e)).alloc _, ⟨⟨by omega, by simp⟩, ⟨_, _, .nilIface, hp_new _ _ _ rfl, HS.out.kept (fun k o hk ho => (hp_alloc _ _ _ (lt_of_heap ho)).trans ho) (fun k hk => ⟨by have h1 : W.heap.size ≤ k := hk.1; omega, by have h2 : k < w1.heap.size := hk.2; rw [World.size_alloc]; omega⟩), ?_, rfl⟩, rfl, (fun x hx => by cases hx), hc, by simp [newTries], by simpa [newTries, newGive] using hi, ap_of (σ := newTries budget xs (newGive c 1 i)) (nd := some i) (nv := .nilIface) (hp_new _ _ _ rfl) (fun K ff bc bi h e => by
  have h1 := HS.out.own bi e
  have h2 : W.heap.size ≤ bi := h1.1
  simp at h
  try omega)⟩⟩
 exact ⟨w.heap.size, w.heap.size + 1, ⟨Nat.le_refl _, by rw [World.size_alloc]; omega⟩, ⟨by omega, by rw [World.size_alloc]; omega⟩, rfl, (hp_alloc _ _ _ (by omega)).trans HCF.out, (hp_alloc _ _ _ (by omega)).trans HIF.out, rfl⟩
end Go.Proofs.YtgdoeoackhfikaaGreatDoor

namespace Go.Proofs.YtgdoeoackhfikaaGreatDoor
open Go.RowKit
set_option maxRecDepth 100000
set_option linter.unusedVariables false
set_option maxHeartbeats 2000000
set_option linter.unusedSimpArgs false
theorem and_low (z : Int) (k : Nat) (hz : 0 ≤ z ∧ z < 18446744073709551616) (hk : 2 ^ k ≤ 18446744073709551616) : bits .and .u64 z ((2 ^ k - 1 : Nat) : Int) = z % ((2 ^ k : Nat) : Int) := by
 obtain ⟨a, rfl⟩ : ∃ a : Nat, z = a := ⟨z.toNat, by omega⟩
 have hp : 0 < 2 ^ k := Nat.two_pow_pos k
 rw [bits_and_u64_nat a (2 ^ k - 1) (by omega) (by omega), Nat.and_two_pow_sub_one_eq_mod]
 omega
theorem and3 (z : Int) (hz : 0 ≤ z ∧ z < 18446744073709551616) : bits .and .u64 z 3 = z % 4 := and_low z 2 hz (by decide)
theorem and30 (z : Int) (hz : 0 ≤ z ∧ z < 18446744073709551616) : bits .and .u64 z 1073741823 = z % 1073741824 := and_low z 30 hz (by decide)
theorem or_low (i t : Int) (k : Nat) (hk : k ≤ 63) (hi : 0 ≤ i ∧ i < ((2 ^ k : Nat) : Int)) (ht : 0 ≤ t ∧ i + t * ((2 ^ k : Nat) : Int) < 18446744073709551616) : bits .or .u64 i (t * ((2 ^ k : Nat) : Int)) = i + t * ((2 ^ k : Nat) : Int) := by
 obtain ⟨a, rfl⟩ : ∃ a : Nat, i = a := ⟨i.toNat, by omega⟩
 obtain ⟨b, rfl⟩ : ∃ b : Nat, t = b := ⟨t.toNat, by omega⟩
 have e : ((b : Int) * ((2 ^ k : Nat) : Int)) = ((b * 2 ^ k : Nat) : Int) := by simp
 rw [e] at ht ⊢
 rw [bits_or_u64_nat a (b * 2 ^ k) (by omega) (by omega)]
 have h2 : a ||| b * 2 ^ k = a + b * 2 ^ k := by
  have h3 : b * 2 ^ k = b <<< k := by rw [Nat.shiftLeft_eq]
  rw [h3, Nat.or_comm, ← Nat.shiftLeft_add_eq_or_of_lt (show a < 2 ^ k by omega)]
  omega
 rw [h2]
 omega
theorem ret_int_ {k : IntKind} {a b : Int} (h : a = b) : Ending.returned (.int k a) = .returned (.int k b) := by rw [h]
theorem slot_State (z : Int) (w : World) (hz : 0 ≤ z ∧ z < 18446744073709551616) :
  Calls Tryz.prog 268 #[.int .u64 z] w fun e w' => e = .returned (.int .i64 (stateOf z)) ∧ w = w' := by
 go_enter Tryz.func268, Tryz.ntmps268
 go_wp2
 go_ret
 refine ⟨ret_int_ (a := wrap64 (bits BinOp.and IntKind.u64 z 3)) ?_, rfl⟩
 rw [and3 z hz]
 unfold wrap64 stateOf
 omega
theorem slot_Index (z : Int) (w : World) (hz : 0 ≤ z ∧ z < 18446744073709551616) :
  Calls Tryz.prog 273 #[.int .u64 z] w fun e w' => e = .returned (.int .u32 (sIdxOf z)) ∧ w = w' := by
 go_enter Tryz.func273, Tryz.ntmps273
 go_wp2
 go_ret
 refine ⟨ret_int_ (a := bits BinOp.and IntKind.u64 (z / 4) 1073741823 % 4294967296) ?_, rfl⟩
 rw [and30 (z / 4) (by omega)]
 unfold sIdxOf
 omega
theorem slot_Stamp (z : Int) (w : World) (hz : 0 ≤ z ∧ z < 18446744073709551616) :
  Calls Tryz.prog 277 #[.int .u64 z] w fun e w' => e = .returned (.int .u32 (stampOf z)) ∧ w = w' := by
 go_enter Tryz.func277, Tryz.ntmps277
 go_wp2
 go_ret
 exact ⟨rfl, rfl⟩
theorem slot_Word (s i t : Int) (w : World) (hs : 0 ≤ s ∧ s < 4) (hi : 0 ≤ i ∧ i < 4294967296) (ht : 0 ≤ t ∧ t < 4294967296) :
  Calls Tryz.prog 276 #[.int .i64 s, .int .u32 i, .int .u32 t] w fun e w' => e = .returned (.int .u64 (slotW s i t)) ∧ w = w' := by
 go_enter Tryz.func276, Tryz.ntmps276
 go_wp2
 go_ret
 refine ⟨ret_int_ (a := bits BinOp.or IntKind.u64 (bits BinOp.or IntKind.u64 (bits BinOp.and IntKind.u64 s 3) (IntKind.u64.wrap (bits BinOp.and IntKind.u64 i 1073741823 * 4))) (t * 4294967296)) ?_, rfl⟩
 rw [and3 s (by omega), and30 i (by omega)]
 have e1 : IntKind.u64.wrap (i % 1073741824 * 4) = i % 1073741824 * 4 := by rw [IntKind.wrap_u64]; omega
 rw [e1]
 have e2 := or_low (s % 4) (i % 1073741824) 2 (by omega) ⟨by omega, by show s % 4 < 4; omega⟩ ⟨by omega, by show s % 4 + i % 1073741824 * 4 < _; omega⟩
 have e3 := or_low (s % 4 + i % 1073741824 * 4) t 32 (by omega) ⟨by omega, by show _ < (4294967296 : Int); omega⟩ ⟨by omega, by show s % 4 + i % 1073741824 * 4 + t * 4294967296 < _; omega⟩
 have e2' : bits .or .u64 (s % 4) (i % 1073741824 * 4) = s % 4 + i % 1073741824 * 4 := e2
 have e3' : bits .or .u64 (s % 4 + i % 1073741824 * 4) (t * 4294967296) = s % 4 + i % 1073741824 * 4 + t * 4294967296 := e3
 rw [e2', e3']
 rfl
end Go.Proofs.YtgdoeoackhfikaaGreatDoor

namespace Go.Proofs.YtgdoeoackhfikaaGreatDoor
open Go.RowKit
set_option maxRecDepth 100000
set_option maxHeartbeats 2000000
set_option linter.unusedSimpArgs false
set_option linter.unusedVariables false
attribute [local go_sem ↓] Go.wp_at_zero Go.wp_at_succ
theorem sIdxOf_range (z : Int) : 0 ≤ sIdxOf z ∧ sIdxOf z < 4294967296 := by unfold sIdxOf; omega
theorem stampOf_range (z : Int) (hz : 0 ≤ z ∧ z < 18446744073709551616) : 0 ≤ stampOf z ∧ stampOf z < 4294967296 := by unfold stampOf; omega
theorem slotW_range (s i t : Int) (ht : 0 ≤ t ∧ t < 4294967296) : 0 ≤ slotW s i t ∧ slotW s i t < 18446744073709551616 := by unfold slotW; omega
theorem waits_range (p : Bool) : 0 ≤ waitsOf p ∧ waitsOf p < 4 := by cases p <;> decide
theorem slot_waits (p : Bool) (w : World) : Calls Tryz.prog 270 #[.bool p] w fun e w' => e = .returned (.int .i64 (waitsOf p)) ∧ w = w' := by
 cases p
 all_goals
  go_enter Tryz.func270, Tryz.ntmps270
  go_wp2
  go_ret
  exact ⟨rfl, rfl⟩
theorem slot_Meets (z : Int) (hz : 0 ≤ z ∧ z < 18446744073709551616) (p : Bool) (w : World) : Calls Tryz.prog 266 #[.int .u64 z, .bool p] w fun e w' => e = .returned (.bool (meets z p)) ∧ w = w' := by
 have h1 := fun w => slot_State z w hz
 have h2 := fun w => slot_waits (!p) w
 have e : meets z p = (stateOf z == waitsOf (!p)) := rfl
 rw [e]
 clear e
 go_enter Tryz.func266, Tryz.ntmps266
 go_wp2_with fail
 refine (h1 _).mono ?_
 rintro e w1 ⟨rfl, rfl⟩
 go_wp2_with fail
 refine (h2 _).mono ?_
 rintro e w1 ⟨rfl, rfl⟩
 go_wp2
 go_ret
 exact ⟨rfl, rfl⟩
theorem slot_Offer_no (z : Int) (hz : 0 ≤ z ∧ z < 18446744073709551616) (p : Bool) (i : Int) (h0 : stateOf z ≠ 0) (w : World) : Calls Tryz.prog 274 #[.int .u64 z, .bool p, .int .u32 i] w fun e w' => e = .returned (.tuple #[.int .u64 0, .bool false]) ∧ w = w' := by
 have h1 := fun w => slot_State z w hz
 have t0 : (stateOf z != 0) = true := by rw [bne_iff_ne]; exact h0
 go_enter Tryz.func274, Tryz.ntmps274
 go_wp2_with fail
 refine (h1 _).mono ?_
 rintro e w1 ⟨rfl, rfl⟩
 go_wp2
 go_ret2
 exact ⟨rfl, rfl⟩
theorem slot_Offer_yes (z : Int) (hz : 0 ≤ z ∧ z < 18446744073709551616) (p : Bool) (i : Int) (hi : 0 ≤ i ∧ i < 4294967296) (h0 : stateOf z = 0) (w : World) : Calls Tryz.prog 274 #[.int .u64 z, .bool p, .int .u32 i] w fun e w' => e = .returned (.tuple #[.int .u64 (slotW (waitsOf p) (if p then i else 0) (stampOf z)), .bool true]) ∧ w = w' := by
 have h1 := fun w => slot_State z w hz
 have h2 := fun w => slot_waits p w
 have h3 := fun w => slot_Stamp z w hz
 have t0 : (stateOf z != 0) = false := by rw [h0]; rfl
 have hst := stampOf_range z hz
 have hwr := waits_range p
 clear h0
 generalize stampOf z = st at *
 generalize hwp : waitsOf p = wp at *
 have HWP := Lib.hid hwp
 clear hwp
 have h4 := fun j (hj : 0 ≤ j ∧ j < 4294967296) w => slot_Word wp j st w hwr hj hst
 cases p
 ·go_enter Tryz.func274, Tryz.ntmps274
  go_wp2_with fail
  refine (h1 _).mono ?_
  rintro e w1 ⟨rfl, rfl⟩
  go_wp2_with fail
  refine (h2 _).mono ?_
  rintro e w1 ⟨rfl, rfl⟩
  go_wp2_with fail
  refine (h3 _).mono ?_
  rintro e w1 ⟨rfl, rfl⟩
  go_wp2_with fail
  refine (h4 0 (by omega) _).mono ?_
  rintro e w1 ⟨rfl, rfl⟩
  go_wp2
  go_ret2
  exact ⟨rfl, rfl⟩
 ·go_enter Tryz.func274, Tryz.ntmps274
  go_wp2_with fail
  refine (h1 _).mono ?_
  rintro e w1 ⟨rfl, rfl⟩
  go_wp2_with fail
  refine (h2 _).mono ?_
  rintro e w1 ⟨rfl, rfl⟩
  go_wp2_with fail
  refine (h3 _).mono ?_
  rintro e w1 ⟨rfl, rfl⟩
  go_wp2_with fail
  refine (h4 i hi _).mono ?_
  rintro e w1 ⟨rfl, rfl⟩
  go_wp2
  go_ret2
  exact ⟨rfl, rfl⟩
theorem slot_Clear (z : Int) (hz : 0 ≤ z ∧ z < 18446744073709551616) (w : World) : Calls Tryz.prog 282 #[.int .u64 z] w fun e w' => e = .returned (.int .u64 (clearW z)) ∧ w = w' := by
 have h3 := fun w => slot_Stamp z w hz
 have hst := stampOf_range z hz
 unfold clearW
 generalize stampOf z = st at *
 have h4 := fun w => slot_Word 0 0 ((st + 1) % 4294967296) w (by omega) (by omega) (by omega)
 go_enter Tryz.func282, Tryz.ntmps282
 go_wp2_with fail
 refine (h3 _).mono ?_
 rintro e w1 ⟨rfl, rfl⟩
 go_wp2_with fail
 refine (h4 _).mono ?_
 rintro e w1 ⟨rfl, rfl⟩
 go_wp2
 go_ret
 exact ⟨rfl, rfl⟩
theorem slot_Claim (z : Int) (hz : 0 ≤ z ∧ z < 18446744073709551616) (p : Bool) (i : Int) (hi : 0 ≤ i ∧ i < 4294967296) (h0 : meets z p = true) (w : World) : Calls Tryz.prog 271 #[.int .u64 z, .bool p, .int .u32 i] w fun e w' => e = .returned (.tuple #[.int .u64 (slotW 3 (if p then i else sIdxOf z) (stampOf z)), .bool true]) ∧ w = w' := by
 have h1 := fun w => slot_Meets z hz p w
 rw [h0] at h1
 have h2 := fun w => slot_Index z w hz
 have h3 := fun w => slot_Stamp z w hz
 have hst := stampOf_range z hz
 have hix := sIdxOf_range z
 clear h0
 generalize stampOf z = st at *
 generalize sIdxOf z = ix at *
 have h4 := fun j (hj : 0 ≤ j ∧ j < 4294967296) w => slot_Word 3 j st w (by omega) hj hst
 cases p
 ·go_enter Tryz.func271, Tryz.ntmps271
  go_wp2_with fail
  refine (h1 _).mono ?_
  rintro e w1 ⟨rfl, rfl⟩
  go_wp2_with fail
  refine (h2 _).mono ?_
  rintro e w1 ⟨rfl, rfl⟩
  go_wp2_with fail
  refine (h3 _).mono ?_
  rintro e w1 ⟨rfl, rfl⟩
  go_wp2_with fail
  refine (h4 _ hix _).mono ?_
  rintro e w1 ⟨rfl, rfl⟩
  go_wp2
  go_ret2
  exact ⟨rfl, rfl⟩
 ·go_enter Tryz.func271, Tryz.ntmps271
  go_wp2_with fail
  refine (h1 _).mono ?_
  rintro e w1 ⟨rfl, rfl⟩
  go_wp2_with fail
  refine (h3 _).mono ?_
  rintro e w1 ⟨rfl, rfl⟩
  go_wp2_with fail
  refine (h4 _ hi _).mono ?_
  rintro e w1 ⟨rfl, rfl⟩
  go_wp2
  go_ret2
  exact ⟨rfl, rfl⟩
theorem slot_Claim_no (z : Int) (hz : 0 ≤ z ∧ z < 18446744073709551616) (p : Bool) (i : Int) (h0 : meets z p = false) (w : World) : Calls Tryz.prog 271 #[.int .u64 z, .bool p, .int .u32 i] w fun e w' => e = .returned (.tuple #[.int .u64 0, .bool false]) ∧ w = w' := by
 have h1 := fun w => slot_Meets z hz p w
 rw [h0] at h1
 clear h0
 go_enter Tryz.func271, Tryz.ntmps271
 go_wp2_with fail
 refine (h1 _).mono ?_
 rintro e w1 ⟨rfl, rfl⟩
 go_wp2
 go_ret2
 exact ⟨rfl, rfl⟩
end Go.Proofs.YtgdoeoackhfikaaGreatDoor

namespace Go.Proofs.YtgdoeoackhfikaaGreatDoor
open Go.RowKit Go.Proofs.YtgdoeoackhfikaaGreatDoorW.PrintWords
set_option maxRecDepth 100000
set_option maxHeartbeats 4000000
set_option linter.unusedSimpArgs false
set_option linter.unusedVariables false
attribute [local go_sem] hs_other hs_alloc hs_falloc run_store_func run_makeFunc
attribute [local go_sem ↓] Go.wp_at_zero Go.wp_at_succ
def ENextFn (w : World) (F : Nat → Prop) (t : Nat) (x : EN) (fv : Value) : Prop :=
 match x with
 | .first => fv = .func (.func 262) #[.pointer (some ⟨t, 0, none⟩)] #[]
 | .claim => fv = .func (.func 267) #[.pointer (some ⟨t, 0, none⟩)] #[]
 | .offer => fv = .func (.func 269) #[.pointer (some ⟨t, 0, none⟩)] #[]
 | .look => fv = .func (.func 275) #[.pointer (some ⟨t, 0, none⟩)] #[]
 | .withdraw => fv = .func (.func 280) #[.pointer (some ⟨t, 0, none⟩)] #[]
 | .found z => ∃ bt bn, F bt ∧ F bn ∧ fv = .func (.func 281) #[] #[.pointer (some ⟨bt, 0, none⟩), .pointer (some ⟨bn, 0, none⟩)] ∧ w.heap[bt]? = some (.cells #[.pointer (some ⟨t, 0, none⟩)] 371 (0, 0)) ∧ w.heap[bn]? = some (.cells #[.int .u64 z] 33 (0, 0))
def EV.cs (x : EV) (fv : Value) : Array Value := #[.int .i64 x.at_, .bool x.push, .int .u32 x.i, .int .u64 x.dl, .int .i64 x.looks, .int .u64 x.w, fv, .int .i64 x.st, .bool x.offered]
structure EVAt (w : World) (F : Nat → Prop) (t : Nat) (x : EV) : Prop where
 own : F t
 obj : ∃ fv, w.heap[t]? = some (.cells (x.cs fv) 386 (0, 0)) ∧ ENextFn w F t x.nx fv
 ri : 0 ≤ x.i ∧ x.i < 4294967296
 rw : 0 ≤ x.w ∧ x.w < 18446744073709551616
 rn : ∀ n, x.nx = .found n → 0 ≤ n ∧ n < 18446744073709551616
theorem ENextFn.kept {w W : World} {F F' : Nat → Prop} {t : Nat} {x : EN} {fv : Value} {cs : Array Value} (h : ENextFn w F t x fv) (ho : w.heap[t]? = some (.cells cs 386 (0, 0))) (hk : ∀ k o, F k → w.heap[k]? = some o → k ≠ t → W.heap[k]? = some o) (hF : ∀ k, F k → F' k) : ENextFn W F' t x fv := by
 cases x with
 | found z =>
  obtain ⟨bt, bn, h1, h2, h3, h4, h5⟩ := h
  exact ⟨bt, bn, hF _ h1, hF _ h2, h3, hk _ _ h1 h4 (fun e => by subst e; exact ne_of_type h4 ho (by decide) rfl), hk _ _ h2 h5 (fun e => by subst e; exact ne_of_type h5 ho (by decide) rfl)⟩
 | _ => exact h
theorem EVAt.kept {w W : World} {F F' : Nat → Prop} {t : Nat} {x : EV} (h : EVAt w F t x) (hk : ∀ k o, F k → w.heap[k]? = some o → W.heap[k]? = some o) (hF : ∀ k, F k → F' k) : EVAt W F' t x := by
 obtain ⟨fv, ho, hn⟩ := h.obj
 exact ⟨hF _ h.own, ⟨fv, hk _ _ h.own ho, hn.kept ho (fun k o h1 h2 _ => hk k o h1 h2) hF⟩, h.ri, h.rw, h.rn⟩
theorem exch_swap (w : World) (b : MB) (σ : MemS) (hb : MemAt w b σ) (hfn : σ.notes.length < 1000000000) (t : Nat) (x : EV) (fv : Value) (ho : w.heap[t]? = some (.cells (x.cs fv) 386 (0, 0))) (z yes no : Int) (hz : 0 ≤ z ∧ z < 18446744073709551616) :
  Calls Tryz.prog 272 #[.pointer (some ⟨t, 0, none⟩), .pointer (some ⟨b.m, 0, none⟩), .int .u64 z, .int .i64 yes, .int .i64 no] w fun e w' => e = .returned (.int .i64 (x.swp σ z yes no).2) ∧ MemPost w b (x.swp σ z yes no).1 w' := by
 obtain ⟨q, fq, lq⟩ := obj_cells ho
 have c0 : w.cell? ⟨t, 0, none⟩ = some (.int .i64 x.at_) := q 0
 have c5 : w.cell? ⟨t, 5, none⟩ = some (.int .u64 x.w) := q 5
 clear q fq
 have ht : ¬ b.has t := hb.not_has ho (by decide) (by decide) (by decide)
 by_cases hh : σ.has x.at_
 ·have e1 : x.swp σ z yes no = (σ.swap x.at_ x.w z, if σ.get x.at_ = x.w then yes else no) := by unfold EV.swp; rw [if_pos hh]
  rw [e1]
  clear e1
  by_cases hq : σ.get x.at_ = x.w
  ·rw [if_pos hq]
   have hd : decide (σ.get x.at_ = x.w) = true := by simpa using hq
   clear hq
   go_enter Tryz.func272, Tryz.ntmps272
   go_wp2
   go_region_held3 (fun w' => w'.cell? ⟨t, 0, none⟩ = some (.int .i64 x.at_) ∧ w'.cell? ⟨t, 5, none⟩ = some (.int .u64 x.w))
    (first | exact ⟨c0, c5⟩ | exact ⟨hpk.cell c0 ht, hpk.cell c5 ht⟩)
    ((go_at_call 223; refine (mem_swap w.drew b σ (hb.same (Kp.refl _ _).drew) hfn x.at_ x.w z hz).mono ?_; rintro e wS hS; obtain ⟨rfl, hp'⟩ := hS.1 hh; have hp := hp'.undrew; have hpk := hp.kp; try rw [hd]))
   go_wp2
   go_ret
   exact ⟨rfl, hp⟩
  ·rw [if_neg hq]
   have hd : decide (σ.get x.at_ = x.w) = false := by simpa using hq
   clear hq
   go_enter Tryz.func272, Tryz.ntmps272
   go_wp2
   go_region_held3 (fun w' => w'.cell? ⟨t, 0, none⟩ = some (.int .i64 x.at_) ∧ w'.cell? ⟨t, 5, none⟩ = some (.int .u64 x.w))
    (first | exact ⟨c0, c5⟩ | exact ⟨hpk.cell c0 ht, hpk.cell c5 ht⟩)
    ((go_at_call 223; refine (mem_swap w.drew b σ (hb.same (Kp.refl _ _).drew) hfn x.at_ x.w z hz).mono ?_; rintro e wS hS; obtain ⟨rfl, hp'⟩ := hS.1 hh; have hp := hp'.undrew; have hpk := hp.kp; try rw [hd]))
   go_wp2
   go_ret
   exact ⟨rfl, hp⟩
 ·have e1 : x.swp σ z yes no = (σ, 5) := by unfold EV.swp; rw [if_neg hh]
  rw [e1]
  clear e1
  go_enter Tryz.func272, Tryz.ntmps272
  go_wp2
  go_region_held3 (fun w' => w'.cell? ⟨t, 0, none⟩ = some (.int .i64 x.at_) ∧ w'.cell? ⟨t, 5, none⟩ = some (.int .u64 x.w))
   (first | exact ⟨c0, c5⟩ | exact ⟨hpk.cell c0 (fun e => e), hpk.cell c5 (fun e => e)⟩)
   ((go_at_call 223; refine (mem_swap w.drew b σ (hb.same (Kp.refl _ _).drew) hfn x.at_ x.w z hz).mono ?_; rintro e wS hS; obtain ⟨rfl, hpk'⟩ := hS.2 hh; have hpk := Kp.undrew hpk'))
  go_wp2
  go_ret
  exact ⟨rfl, b.nv, hb.same hpk, fun k h => .inl h, hpk.mono (fun _ e => e.elim)⟩
theorem exch_New (at_ : Int) (push : Bool) (i dl polls : Int) (hi : 0 ≤ i ∧ i < 4294967296) (w : World) :
  Calls Tryz.prog 259 #[.int .i64 at_, .bool push, .int .u32 i, .int .u64 dl, .int .i64 polls] w fun e w' => ∃ t, e = .returned (.pointer (some ⟨t, 0, none⟩)) ∧ w.heap.size ≤ t ∧ Kp (fun _ => False) w w' ∧ EVAt w' (fun k => w.heap.size ≤ k ∧ k < w'.heap.size) t (newVisit at_ push i dl polls) := by
 go_enter Tryz.func259, Tryz.ntmps259
 go_wp2
 ·go_ret
  have e : newVisit at_ push i dl polls = ⟨at_, push, i, dl, 1, 0, .first, 0, false⟩ := by unfold newVisit; rw [show max polls 1 = 1 from by omega]
  rw [e]
  exact ⟨_, rfl, Nat.le_refl _, Kp.nb (by go_grown), ⟨⟨Nat.le_refl _, by simp⟩, ⟨_, hp_new _ _ _ rfl, rfl⟩, hi, by simp, fun n e => by cases e⟩⟩
 ·go_ret
  have e : newVisit at_ push i dl polls = ⟨at_, push, i, dl, polls, 0, .first, 0, false⟩ := by unfold newVisit; rw [show max polls 1 = polls from by omega]
  rw [e]
  exact ⟨_, rfl, Nat.le_refl _, Kp.nb (by go_grown), ⟨⟨Nat.le_refl _, by simp⟩, ⟨_, hp_new _ _ _ rfl, rfl⟩, hi, by simp, fun n e => by cases e⟩⟩
end Go.Proofs.YtgdoeoackhfikaaGreatDoor

namespace Go.Proofs.YtgdoeoackhfikaaGreatDoor
open Go.RowKit Go.Proofs.YtgdoeoackhfikaaGreatDoorW.PrintWords
set_option maxRecDepth 100000
set_option maxHeartbeats 2000000
set_option linter.unusedSimpArgs false
set_option linter.unusedVariables false
def Pol.v (s : Pol) : Value := .agg #[.int .i64 s.range, .int .i64 s.exp]
theorem policy_within (s : Pol) (n : Int) (w : World) :
  Calls Tryz.prog 101 #[s.v, .int .i64 n] w fun e w' => e = .returned (s.within n).v ∧ Below w.heap.size w w' := by
 obtain ⟨r, x⟩ := s
 unfold Pol.v
 go_enter Tryz.func101, Tryz.ntmps101
 go_wp2
 all_goals go_returns
 all_goals refine ⟨?_, by go_grown⟩
 all_goals simp only [Pol.within, Ending.returned.injEq, Value.agg.injEq, Array.mk.injEq, List.cons.injEq, Value.int.injEq, true_and, and_true]
 all_goals omega
theorem policy_New (n : Int) (w : World) :
  Calls Tryz.prog 79 #[.int .i64 n] w fun e w' => e = .returned (Pol.new n).v ∧ Below w.heap.size w w' := by
 have hwi := fun w => policy_within ⟨1, 0⟩ n w
 have hnew : Pol.new n = Pol.within ⟨1, 0⟩ n := rfl
 rw [hnew]
 clear hnew
 unfold Pol.v at *
 go_enter Tryz.func79, Tryz.ntmps79
 go_wp2_with fail
 refine (hwi _).mono ?_
 rintro e w1 ⟨rfl, hb⟩
 have hbox := obj_below hb (hp_new w (.cells #[.int .i64 0, .int .i64 0] 83) w.heap.size rfl)
 obtain ⟨q, fq, lq⟩ := obj_cells hbox
 have HB := Lib.hid hbox
 clear hbox
 generalize hpp : Pol.within ⟨1, 0⟩ n = p at *
 have HPp := Lib.hid hpp
 clear hpp
 go_wp2_with fail
 refine any_world (p := fun W => bodyPost _ _ _ _ _ W) ?_
 intro W hW
 have hX : W.heap[w.heap.size]? = some (.cells #[.int .i64 p.range, .int .i64 p.exp] 83 (0, 0)) := by rw [hW]; exact hp_same _ _ 1 _ (hp_same _ _ 0 _ HB.out)
 have hK : Kp (fun _ => False) w W := by rw [hW]; exact Kp.new (Kp.new ((Kp.nb (w := w) (by go_grown)).comp (Kp.nb hb) (fun _ _ e => e)) (Nat.le_refl _) 0 _) (Nat.le_refl _) 1 _
 obtain ⟨q2, fq2, lq2⟩ := obj_cells hX
 clear hW hX q fq
 exact bodyPost_ret (v := .agg #[.int .i64 p.range, .int .i64 p.exp]) (by simp [results, Tryz.results79, go_sem, q2]) rfl ⟨by rw [HPp.out], hK.blw⟩
theorem eqPol (d : Nat) (w : World) (x0 x1 y0 y1 : Int) :
  (Op.equalIn (d + 2) 83 (.agg #[.int .i64 x0, .int .i64 x1]) (.agg #[.int .i64 y0, .int .i64 y1])).run Tryz.prog w = .ok (x0 == y0 && (x1 == y1)) w := by
 refine eqA_of Tryz.underlying83 (by kernel_rfl) ?_
 refine eqf_cons (by rfl) (by go_simp; rfl) (by go_simp; rfl) (by go_simp) ?_
 exact eqf_last (by rfl) (by go_simp; rfl) (by go_simp; rfl) (by go_simp)
theorem eqlPol (w : World) (x0 x1 y0 y1 : Int) : (binOp .eql 83 (.agg #[.int .i64 x0, .int .i64 x1]) (.agg #[.int .i64 y0, .int .i64 y1])).run Tryz.prog w = .ok (.bool (x0 == y0 && (x1 == y1))) w := by
 rw [run_eql_struct, eqPol 9998 w]
 rfl
theorem policy_Right (s : Pol) (n : Int) (w : World) :
  Calls Tryz.prog 212 #[s.v, .int .i64 n] w fun e w' => e = .returned (.bool (decide (s.right n))) ∧ Below w.heap.size w w' := by
 have hwi := fun w => policy_within s n w
 have hE : ∀ (h0 : 0 ≤ n) (h1 : n ≤ 16), decide (s.right n) = (decide (s.range = (s.within n).range) && decide (s.exp = (s.within n).exp)) := fun h0 h1 => by
  have hq : s = s.within n ↔ (s.range = (s.within n).range ∧ s.exp = (s.within n).exp) := by
   constructor
   ·intro h; exact ⟨congrArg Pol.range h, congrArg Pol.exp h⟩
   ·rintro ⟨h1, h2⟩
    generalize s.within n = p at *
    cases s
    cases p
    simp only at h1 h2
    rw [h1, h2]
  rw [← Bool.decide_and]
  exact decide_eq_decide.2 ⟨fun h => hq.1 h.2.2, fun h => ⟨h0, h1, hq.2 h⟩⟩
 obtain ⟨r, x⟩ := s
 generalize hp : Pol.within ⟨r, x⟩ n = p at *
 have HPp := Lib.hid hp
 clear hp
 by_cases h0 : 0 ≤ n
 ·by_cases h1 : n ≤ 16
  ·rw [hE h0 h1]
   clear hE
   have hql := eqlPol
   have hd1 : (decide (r = p.range) && decide (x = p.exp)) = (r == p.range && (x == p.exp)) := by rfl
   rw [hd1]
   clear hd1
   unfold Pol.v at *
   go_enter Tryz.func212, Tryz.ntmps212
   go_wp2_with fail
   refine wp_world ?_
   intro W hW
   have hbox : W.heap[w.heap.size]? = some (.cells #[.int .i64 r, .int .i64 x] 83 (0, 0)) := by rw [hW]; exact hp_new _ _ _ rfl
   have hK : Kp (fun _ => False) w W := by rw [hW]; exact Kp.nb (by go_grown)
   obtain ⟨q, fq, lq⟩ := obj_cells hbox
   have c0 : W.cell? ⟨w.heap.size, 0, none⟩ = some (.int .i64 r) := q 0
   have c1 : W.cell? ⟨w.heap.size, 1, none⟩ = some (.int .i64 x) := q 1
   clear hW hbox q fq
   go_region_held3 (fun w' => w'.cell? ⟨w.heap.size, 0, none⟩ = some (.int .i64 r) ∧ w'.cell? ⟨w.heap.size, 1, none⟩ = some (.int .i64 x))
    (first | exact ⟨c0, c1⟩ | exact ⟨hK1.cell c0 (fun e => e), hK1.cell c1 (fun e => e)⟩)
    ((go_at_call 101; refine (hwi W.drew).mono ?_; rintro e w1 ⟨rfl, hb1⟩; have hK1 : Kp (fun _ => False) W w1 := Kp.undrew (Kp.nb hb1)))
   go_wp2
   go_ret
   exact ⟨rfl, (hK.comp hK1 (fun _ _ e => e)).blw⟩
  ·have e : decide (Pol.right ⟨r, x⟩ n) = false := decide_eq_false (fun h => h1 h.2.1)
   rw [e]
   have hd1 : decide (0 ≤ n) = true := by simpa using h0
   have hd2 : decide (n ≤ 16) = false := by simpa using h1
   clear e hE hwi
   unfold Pol.v
   go_enter Tryz.func212, Tryz.ntmps212
   go_wp2_with fail
   go_quiet (fail)
   go_wp2
   go_ret
   exact ⟨rfl, ((Kp.nb (w := w) (by go_grown)).drewN _).blw⟩
 ·have e : decide (Pol.right ⟨r, x⟩ n) = false := decide_eq_false (fun h => h0 h.1)
  rw [e]
  have hd1 : decide (0 ≤ n) = false := by simpa using h0
  clear e hE hwi
  unfold Pol.v
  go_enter Tryz.func212, Tryz.ntmps212
  go_wp2_with fail
  go_quiet (fail)
  go_wp2
  go_ret
  exact ⟨rfl, ((Kp.nb (w := w) (by go_grown)).drewN _).blw⟩
end Go.Proofs.YtgdoeoackhfikaaGreatDoor

namespace Go.Proofs.YtgdoeoackhfikaaGreatDoor
open Go.RowKit Go.Proofs.YtgdoeoackhfikaaGreatDoorW.PrintWords
set_option maxRecDepth 100000
set_option maxHeartbeats 2000000
set_option linter.unusedSimpArgs false
set_option linter.unusedVariables false
attribute [local go_sem] hs_other hs_alloc hs_falloc
attribute [local go_sem ↓] Go.wp_at_zero Go.wp_at_succ
theorem nums_one (k : IntKind) (l : List Int) : ∀ u ∈ nums k l, u.oneCell' = true := by simp [nums, Value.oneCell']
theorem mem_New (w : World) (v : Value) (xs : List Int) (hr : w.ownsRow 0 33 1 v xs.length (nums .u64 xs)) (h0 : 0 < xs.length) (hl : xs.length ≤ 1024) (hx : ∀ z ∈ xs, 0 ≤ z ∧ z < 18446744073709551616) :
  Calls Tryz.prog 105 #[v] w fun e w' => ∃ b : MB, e = .returned (.tuple #[.pointer (some ⟨b.m, 0, none⟩), .int .i64 0]) ∧ Kp (fun _ => False) w w' ∧ (∀ k, b.has k → w.heap.size ≤ k) ∧ MemAt w' b ⟨xs, []⟩ := by
 have hcl := clone_u64 w 0 v xs.length (nums .u64 xs) hr (nums_one _ _) (by omega)
 obtain ⟨A, cc, rfl⟩ := row_slice hr
 have HX := Lib.hid hx
 clear hr hx
 go_enter Tryz.func105, Tryz.ntmps105
 go_wp2_with fail
 refine hcl.mono ?_
 rintro e w1 ⟨v', rfl, hr1, hb1⟩
 obtain ⟨g, cap, cur, rfl, hg, rest⟩ : ∃ g cap cur, v' = .slice (some ⟨g, 0, none⟩) xs.length cap ∧ w.heap.size ≤ g ∧ w1.heap[g]? = some (.cells cur 33 (0, 0)) := by
  rcases hr1.2 with ⟨_, h⟩ | ⟨g, cap, cur, hv, hg, hh, _⟩
  ·omega
  ·exact ⟨g, cap, cur, hv, hg, hh⟩
 have HR := Lib.hid hr1
 clear hr1
 go_wp2_with fail
 go_ret2
 have hlt : g < w1.heap.size := lt_of_heap rest
 refine ⟨⟨w1.heap.size, g, cap, .slice none 0 0⟩, rfl, (Kp.nb hb1).also (Kp.nb ((Below.refl _ w1).alloc (Nat.le_refl _) _)), ?_, ⟨hp_new _ _ _ rfl, row_base (row_alloc HR.out _) (Nat.zero_le _), World.ownsRow_nil _ _ _ _, HX.out, hl⟩⟩
 intro k hk
 rcases hk with h | h | h
 ·have h : k = w1.heap.size := h
  have := hb1.size
  omega
 ·have h : k = g := h
  omega
 ·cases h
theorem mem_Words (w : World) (b : MB) (σ : MemS) (h : MemAt w b σ) :
  Calls Tryz.prog 25 #[.pointer (some ⟨b.m, 0, none⟩)] w fun e w' => ∃ v', e = .returned v' ∧ w'.ownsRow w.heap.size 33 1 v' σ.words.length (nums .u64 σ.words) ∧ Kp (fun _ => False) w w' := by
 have hcl := clone_u64 w 0 _ σ.words.length (nums .u64 σ.words) h.words (nums_one _ _) (by have := h.few; omega)
 have c0 := h.c0
 clear h
 go_enter Tryz.func25, Tryz.ntmps25
 go_wp2_with fail
 refine hcl.mono ?_
 rintro e w1 ⟨v', rfl, hr1, hb1⟩
 obtain ⟨A, cc, rfl⟩ := row_slice hr1
 have HR := Lib.hid hr1
 clear hr1
 go_wp2_with fail
 go_ret
 exact ⟨_, rfl, HR.out, Kp.nb hb1⟩
end Go.Proofs.YtgdoeoackhfikaaGreatDoor

namespace Go.Proofs.YtgdoeoackhfikaaGreatDoor
open Go.RowKit Go.Proofs.YtgdoeoackhfikaaGreatDoorW.PrintWords
set_option maxRecDepth 100000
set_option maxHeartbeats 4000000
set_option linter.unusedSimpArgs false
set_option linter.unusedVariables false
attribute [local go_sem] hs_other hs_alloc hs_falloc
attribute [local go_sem ↓] Go.wp_at_zero Go.wp_at_succ
theorem policy_After (s : Pol) (hs : -1000 ≤ s.range ∧ s.range ≤ 1000 ∧ -1000 ≤ s.exp ∧ s.exp ≤ 1000) (n st : Int) (w : World) :
  Calls Tryz.prog 251 #[s.v, .int .i64 n, .int .i64 st] w fun e w' => e = .returned (s.after n st).v ∧ Below w.heap.size w w' := by
 obtain ⟨r, x⟩ := s
 simp only at hs
 by_cases h3 : st = 3
 ·subst h3
  have e : Pol.after ⟨r, x⟩ n 3 = Pol.within ⟨r * 2, x⟩ n := by simp [Pol.after]
  rw [e]
  clear e
  have hwi := fun w => policy_within ⟨r * 2, x⟩ n w
  generalize Pol.within ⟨r * 2, x⟩ n = p at *
  unfold Pol.v at *
  go_enter Tryz.func251, Tryz.ntmps251
  go_wp2_with fail
  refine (hwi _).mono ?_
  rintro e w1 ⟨rfl, hb⟩
  have hbox : w1.heap[w.heap.size + 1]? = some (.cells #[.int .i64 0, .int .i64 0] 83 (0, 0)) := obj_below hb (hp_new _ _ _ (by simp))
  obtain ⟨q, fq, lq⟩ := obj_cells hbox
  have HB := Lib.hid hbox
  have hK1 : Kp (fun _ => False) w w1 := (Kp.nb (w := w) (by go_grown)).comp (Kp.nb hb) (fun _ _ e => e)
  clear hbox
  go_wp2_with fail
  refine any_world (p := fun W => bodyPost _ _ _ _ _ W) ?_
  intro W hW
  have hX : W.heap[w.heap.size + 1]? = some (.cells #[.int .i64 p.range, .int .i64 p.exp] 83 (0, 0)) := by rw [hW]; exact hp_same _ _ 1 _ (hp_same _ _ 0 _ HB.out)
  have hK : Kp (fun _ => False) w W := by rw [hW]; exact Kp.new (Kp.new hK1 (by omega) 0 _) (by omega) 1 _
  obtain ⟨q2, fq2, lq2⟩ := obj_cells hX
  clear hW hX q fq
  exact bodyPost_ret (v := .agg #[.int .i64 p.range, .int .i64 p.exp]) (by simp [results, Tryz.results251, go_sem, q2]) rfl ⟨rfl, hK.blw⟩
 by_cases h4 : st = 4
 ·subst h4
  have e : Pol.after ⟨r, x⟩ n 4 = Pol.within ⟨Int.tdiv r 2, x + 1⟩ n := by simp [Pol.after]
  rw [e]
  clear e
  have hwi := fun w => policy_within ⟨Int.tdiv r 2, x + 1⟩ n w
  generalize Pol.within ⟨Int.tdiv r 2, x + 1⟩ n = p at *
  unfold Pol.v at *
  go_enter Tryz.func251, Tryz.ntmps251
  go_wp2_with fail
  refine (hwi _).mono ?_
  rintro e w1 ⟨rfl, hb⟩
  have hbox : w1.heap[w.heap.size + 1]? = some (.cells #[.int .i64 0, .int .i64 0] 83 (0, 0)) := obj_below hb (hp_new _ _ _ (by simp))
  obtain ⟨q, fq, lq⟩ := obj_cells hbox
  have HB := Lib.hid hbox
  have hK1 : Kp (fun _ => False) w w1 := (Kp.nb (w := w) (by go_grown)).comp (Kp.nb hb) (fun _ _ e => e)
  clear hbox
  go_wp2_with fail
  refine any_world (p := fun W => bodyPost _ _ _ _ _ W) ?_
  intro W hW
  have hX : W.heap[w.heap.size + 1]? = some (.cells #[.int .i64 p.range, .int .i64 p.exp] 83 (0, 0)) := by rw [hW]; exact hp_same _ _ 1 _ (hp_same _ _ 0 _ HB.out)
  have hK : Kp (fun _ => False) w W := by rw [hW]; exact Kp.new (Kp.new hK1 (by omega) 0 _) (by omega) 1 _
  obtain ⟨q2, fq2, lq2⟩ := obj_cells hX
  clear hW hX q fq
  exact bodyPost_ret (v := .agg #[.int .i64 p.range, .int .i64 p.exp]) (by simp [results, Tryz.results251, go_sem, q2]) rfl ⟨rfl, hK.blw⟩
 by_cases h1 : st = 1
 ·subst h1
  have e : Pol.after ⟨r, x⟩ n 1 = Pol.within ⟨r, 0⟩ n := by simp [Pol.after]
  rw [e]
  clear e
  have hwi := fun w => policy_within ⟨r, 0⟩ n w
  generalize Pol.within ⟨r, 0⟩ n = p at *
  unfold Pol.v at *
  go_enter Tryz.func251, Tryz.ntmps251
  go_wp2_with fail
  refine (hwi _).mono ?_
  rintro e w1 ⟨rfl, hb⟩
  have hbox : w1.heap[w.heap.size + 1]? = some (.cells #[.int .i64 0, .int .i64 0] 83 (0, 0)) := obj_below hb (hp_new _ _ _ (by simp))
  obtain ⟨q, fq, lq⟩ := obj_cells hbox
  have HB := Lib.hid hbox
  have hK1 : Kp (fun _ => False) w w1 := (Kp.nb (w := w) (by go_grown)).comp (Kp.nb hb) (fun _ _ e => e)
  clear hbox
  go_wp2_with fail
  refine any_world (p := fun W => bodyPost _ _ _ _ _ W) ?_
  intro W hW
  have hX : W.heap[w.heap.size + 1]? = some (.cells #[.int .i64 p.range, .int .i64 p.exp] 83 (0, 0)) := by rw [hW]; exact hp_same _ _ 1 _ (hp_same _ _ 0 _ HB.out)
  have hK : Kp (fun _ => False) w W := by rw [hW]; exact Kp.new (Kp.new hK1 (by omega) 0 _) (by omega) 1 _
  obtain ⟨q2, fq2, lq2⟩ := obj_cells hX
  clear hW hX q fq
  exact bodyPost_ret (v := .agg #[.int .i64 p.range, .int .i64 p.exp]) (by simp [results, Tryz.results251, go_sem, q2]) rfl ⟨rfl, hK.blw⟩
 ·have e : Pol.after ⟨r, x⟩ n st = Pol.within ⟨r, x⟩ n := by simp [Pol.after, h3, h4, h1]
  rw [e]
  clear e
  have hwi := fun w => policy_within ⟨r, x⟩ n w
  generalize Pol.within ⟨r, x⟩ n = p at *
  have t3 : (st == 3) = false := beq_eq_false_iff_ne.2 h3
  have t4 : (st == 4) = false := beq_eq_false_iff_ne.2 h4
  have t1 : (st == 1) = false := beq_eq_false_iff_ne.2 h1
  unfold Pol.v at *
  go_enter Tryz.func251, Tryz.ntmps251
  go_wp2_with fail
  refine (hwi _).mono ?_
  rintro e w1 ⟨rfl, hb⟩
  have hbox : w1.heap[w.heap.size + 1]? = some (.cells #[.int .i64 0, .int .i64 0] 83 (0, 0)) := obj_below hb (hp_new _ _ _ (by simp))
  obtain ⟨q, fq, lq⟩ := obj_cells hbox
  have HB := Lib.hid hbox
  have hK1 : Kp (fun _ => False) w w1 := (Kp.nb (w := w) (by go_grown)).comp (Kp.nb hb) (fun _ _ e => e)
  clear hbox
  go_wp2_with fail
  refine any_world (p := fun W => bodyPost _ _ _ _ _ W) ?_
  intro W hW
  have hX : W.heap[w.heap.size + 1]? = some (.cells #[.int .i64 p.range, .int .i64 p.exp] 83 (0, 0)) := by rw [hW]; exact hp_same _ _ 1 _ (hp_same _ _ 0 _ HB.out)
  have hK : Kp (fun _ => False) w W := by rw [hW]; exact Kp.new (Kp.new hK1 (by omega) 0 _) (by omega) 1 _
  obtain ⟨q2, fq2, lq2⟩ := obj_cells hX
  clear hW hX q fq
  exact bodyPost_ret (v := .agg #[.int .i64 p.range, .int .i64 p.exp]) (by simp [results, Tryz.results251, go_sem, q2]) rfl ⟨rfl, hK.blw⟩
end Go.Proofs.YtgdoeoackhfikaaGreatDoor

namespace Go.Proofs.YtgdoeoackhfikaaGreatDoor
open Go.RowKit Go.Proofs.YtgdoeoackhfikaaGreatDoorW.PrintWords
set_option maxRecDepth 100000
set_option maxHeartbeats 4000000
set_option linter.unusedSimpArgs false
set_option linter.unusedVariables false
attribute [local go_sem] hs_other hs_alloc hs_falloc
attribute [local go_sem ↓] Go.wp_at_zero Go.wp_at_succ
theorem pollsGo_big (m : Nat) (v : Int) (h : ¬ v < 64) : pollsGo m v = v := by
 cases m with
 | zero => rfl
 | succ m => unfold pollsGo; rw [if_neg h]
theorem pollsGo_step (m : Nat) (v : Int) (h : v < 64) : pollsGo (m + 1) v = pollsGo m (v * 2) := by
 rw [pollsGo, if_pos h]
theorem policy_Polls (s : Pol) (hs : 0 ≤ s.exp ∧ s.exp ≤ 1000) (base : Int) (hb : 1 ≤ base ∧ base ≤ 64) (w : World) :
  Calls Tryz.prog 260 #[s.v, .int .i64 base] w fun e w' => e = .returned (.int .i64 (s.polls base)) ∧ Below w.heap.size w w' := by
 obtain ⟨r, x⟩ := s
 simp only at hs
 unfold Pol.v
 go_enter Tryz.func260, Tryz.ntmps260
 go_wp2
 go_loopw [5, 6] (fun n i wr => ∃ (k : Nat) (v : Int), (k : Int) ≤ x ∧ i = .int .i64 k ∧ n = .int .i64 v ∧ 1 ≤ v ∧ v ≤ 127 ∧ Hid (pollsGo (x.toNat - k) v = pollsGo x.toNat (max base 1)) ∧ Below w.heap.size w wr ∧ wr.cell? ⟨w.heap.size, 1, none⟩ = some (.int .i64 x)) (fun _ i _ => x.toNat - (intOf i).toNat)
 case atStart => exact ⟨0, base, by omega, rfl, rfl, by omega, by omega, by rw [show max base 1 = base from by omega]; exact rfl, by go_grown, by simp⟩
 case round =>
  obtain ⟨k, v, hk, rfl, rfl, hv1, hv2, hE, hbw, hc⟩ := hrel
  by_cases h1 : (k : Int) < x
  ·by_cases h2 : v < 64
   ·have hd1 : decide ((k : Int) < x) = true := by simpa using h1
    have hd2 : decide (v < 64) = true := by simpa using h2
    go_wp2
    refine ⟨⟨k + 1, v * 2, by omega, by simp, rfl, by omega, by omega, ?_, hbw, hc⟩, by simp [intOf]; omega⟩
    have h3 := hE.out
    rw [show x.toNat - k = (x.toNat - (k + 1)) + 1 from by omega, pollsGo_step _ _ h2] at h3
    exact h3
   ·have hd1 : decide ((k : Int) < x) = true := by simpa using h1
    have hd2 : decide (v < 64) = false := by simpa using h2
    go_wp2
    all_goals have e : Pol.polls ⟨r, x⟩ base = min v 64 := (by unfold Pol.polls; rw [← hE.out, pollsGo_big _ _ (by omega)])
    all_goals rw [e]
    all_goals go_ret
    all_goals refine ⟨ret_int_ ?_, hbw⟩
    all_goals omega
  ·have hd1 : decide ((k : Int) < x) = false := by simpa using h1
   go_wp2
   all_goals have e : Pol.polls ⟨r, x⟩ base = min v 64 := (by unfold Pol.polls; rw [← hE.out, show x.toNat - k = 0 from by omega, pollsGo])
   all_goals rw [e]
   all_goals go_ret
   all_goals refine ⟨ret_int_ ?_, hbw⟩
   all_goals omega
end Go.Proofs.YtgdoeoackhfikaaGreatDoor

namespace Go.Proofs.YtgdoeoackhfikaaGreatDoor
open Go.RowKit Go.Proofs.YtgdoeoackhfikaaGreatDoorW.PrintWords
set_option maxRecDepth 100000
set_option maxHeartbeats 4000000
set_option linter.unusedSimpArgs false
set_option linter.unusedVariables false
attribute [local go_sem] hs_other hs_alloc hs_falloc
attribute [local go_sem ↓] Go.wp_at_zero Go.wp_at_succ
theorem slices_Grow_nil (w : World) (n : Nat) (hn : 1 ≤ n ∧ n ≤ 1000) :
  Calls Tryz.prog 87 #[.slice none 0 0, .int .i64 n] w fun e w' => ∃ g cap : Nat, e = .returned (.slice (some ⟨g, 0, none⟩) 0 cap) ∧ w'.ownsRow w.heap.size 33 1 (.slice (some ⟨g, 0, none⟩) 0 cap) 0 [] ∧ Kp (fun _ => False) w w' ∧ cap ≤ maxLen := by
 obtain ⟨i0, hi, hz0, hz1, hz2⟩ := info_parts info_u64
 have hap := Lib.run_append_nil_zeros (P := Tryz.prog) w 22 3 22 33 i0 (.int .u64 0) .i64 .i64 Tryz.underlying22 Tryz.underlying3 hi hz0 n (by omega) (by omega) (by omega) (by rw [hz2]; omega)
 have hC1 := grownCap_ge w n 0 33
 have hC2 := grownCap_le_maxLen w n 0 33 (by unfold maxLen; omega)
 obtain ⟨C, hC⟩ : ∃ C, C = grownCap w n 0 33 := ⟨_, rfl⟩
 rw [← hC] at hap hC1 hC2
 obtain ⟨Z, hZ⟩ : ∃ Z, Z = Builtin.zeroCells (Value.int .u64 0).cells n ++ Builtin.zeroCells (Value.int .u64 0).cells (C - n) := ⟨_, rfl⟩
 rw [← hZ] at hap
 have hZs : Z.size = C := by rw [hZ]; simp [size_zeroCells, Value.cells]; omega
 have hd1 : decide ((n : Int) < 0) = false := decide_eq_false (by omega)
 have hw : IntKind.i64.wrap (n : Int) = n := by simp [IntKind.wrap, IntKind.bits, IntKind.signed]; omega
 have hd2 : decide (0 < (n : Int)) = true := decide_eq_true (by omega)
 have HC2 := Lib.hid hC2
 have hC3 : C ≤ 9223372036854775807 := by unfold maxLen at hC2; omega
 clear hC hZ hi hz0 hz1 hz2 hC2
 go_enter Tryz.func87, Tryz.ntmps87
 have HAP := Lib.hid hap
 clear hap
 go_wp2_with (at_builtin; refine Lib.wpList_append_run w rfl _ _ 22 3 rfl _ _ rfl rfl _ _ HAP.out ?_)
 go_wp2
 go_ret
 exact ⟨w.heap.size, C, rfl, World.ownsRow_made w.drew Z C (Nat.le_refl _) HC2.out (by rw [hZs]; omega), ((Kp.refl _ w).drew).alloc _, HC2.out⟩
theorem slices_Concat (w : World) (h : Nat) (ad : Addr) (k c : Nat) (xs : List Value) (hk : 1 ≤ k ∧ k ≤ 100) (hlen : xs.length = k) (h1 : ∀ u ∈ xs, u.oneCell' = true) (hsrc : ∀ j u, xs[j]? = some u → w.cell? (ad.add j) = some u) (h2 : Nat) (ho : w.heap[h]? = some (.cells #[.slice (some ad) k c, .slice (some ⟨h2, 0, none⟩) 1 1] 22 (0, 0))) (hi2 : w.cell? ⟨h2, 0, none⟩ = some (.int .u64 0)) :
  Calls Tryz.prog 49 #[.slice (some ⟨h, 0, none⟩) 2 2] w fun e w' => ∃ g cap : Nat, e = .returned (.slice (some ⟨g, 0, none⟩) (k + 1) cap) ∧ w'.ownsRow w.heap.size 33 1 (.slice (some ⟨g, 0, none⟩) (k + 1) cap) (k + 1) (xs ++ [.int .u64 0]) ∧ Kp (fun _ => False) w w' := by
 obtain ⟨q, _, lq⟩ := obj_cells ho
 have c0 : w.cell? ⟨h, 0, none⟩ = some (.slice (some ad) k c) := q 0
 have c1 : w.cell? ⟨h, 1, none⟩ = some (.slice (some ⟨h2, 0, none⟩) 1 1) := q 1
 have hgr := slices_Grow_nil w (k + 1) (by omega)
 have e1 : ((k + 1 : Nat) : Int) = (k : Int) + 1 := by omega
 rw [e1] at hgr
 clear e1
 obtain ⟨i0, hi, hz0, hz1, hz2⟩ := info_parts info_u64
 have hsrc2 : ∀ j u, ([.int .u64 0] : List Value)[j]? = some u → w.cell? ((⟨h2, 0, none⟩ : Addr).add j) = some u := fun j u hj => by
  match j, hj with
  | 0, hj => rw [addr_add]; simp at hj; rw [← hj]; exact hi2
  | j + 1, hj => simp at hj
 have HS2 := Lib.hid hsrc2
 clear hsrc2
 have hwk : IntKind.i64.wrap ((k : Int) + 1) = ((k + 1 : Nat) : Int) := by simp [IntKind.wrap, IntKind.bits, IntKind.signed]; omega
 have hwk0 : IntKind.i64.wrap (k : Int) = (k : Int) := by simp [IntKind.wrap, IntKind.bits, IntKind.signed]; omega
 have hd1 : decide ((k : Int) < 0) = false := decide_eq_false (by omega)
 have hd2 : decide (((k + 1 : Nat) : Int) < 0) = false := decide_eq_false (by omega)
 have HS := Lib.hid hsrc
 have H1 := Lib.hid h1
 clear q ho hsrc h1
 go_enter Tryz.func49, Tryz.ntmps49
 go_wp2
 go_loopw [3, 11] (fun s i wr => ∃ j : Nat, j ≤ 2 ∧ i = .int .i64 j ∧ s = .int .i64 (if j = 0 then (0 : Int) else if j = 1 then (k : Int) else ((k + 1 : Nat) : Int)) ∧ wr = w) (fun _ i _ => 2 - (intOf i).toNat)
 case atStart => exact ⟨0, by omega, rfl, rfl, rfl⟩
 case round =>
  obtain ⟨j, hj, rfl, rfl, hww⟩ := hrel
  obtain rfl : w = wr := hww.symm
  match j, hj with
  | 0, _ =>
   go_wp2
   exact ⟨⟨1, by omega, by simp, by simp, trivial⟩, by simp [intOf]⟩
  | 1, _ =>
   go_wp2
   exact ⟨⟨2, by omega, by simp, by simp, trivial⟩, by simp [intOf]⟩
  | 2, _ =>
   go_wp2_with fail
   refine hgr.mono ?_
   rintro e w2 ⟨g, cap, rfl, hown, hk2, hcap⟩
   have d0 := hk2.cell c0 (fun e => e)
   have d1 := hk2.cell c1 (fun e => e)
   have HOW := Lib.hid hown
   have C0 := Lib.hid c0
   have C1 := Lib.hid c1
   clear hown c0 c1
   go_wp2
   go_loopw [6, 27] (fun v i w3 => ∃ j : Nat, j ≤ 2 ∧ i = .int .i64 j ∧ w3.ownsRow w.heap.size 33 1 v (if j = 0 then 0 else if j = 1 then k else k + 1) (if j = 0 then [] else if j = 1 then xs else xs ++ [.int .u64 0]) ∧ Kp (fun _ => False) w w3) (fun _ i _ => 2 - (intOf i).toNat)
   case atStart => exact ⟨0, by omega, rfl, HOW.out, hk2⟩
   case round =>
    obtain ⟨j, hj, rfl, hown3, hk3⟩ := hrel
    have f0 := hk3.cell C0.out (fun e => e)
    have f1 := hk3.cell C1.out (fun e => e)
    have hsz3 := hk3.size
    match j, hj with
    | 0, _ =>
     have hown0 : wr.ownsRow w.heap.size 33 1 _ 0 [] := hown3
     have HO0 := Lib.hid hown0
     clear hown3 hown0
     go_wp2_with (at_builtin; refine wpList_append_own _ rfl _ _ 22 rfl w.heap.size 33 i0 (.int .u64 0) 1 8 Tryz.underlying22 hi hz0 hz1 hz2 rfl (by decide) _ _ _ rfl HO0.out ad k c xs rfl (by omega) (fun j u hj => hk3.cell (HS.out j u hj) (fun e => e)) H1.out (by unfold maxLen; omega) (by omega) hsz3 ?_)
     intro v' w' ho hgr _
     have hK : Kp (fun _ => False) w w' := hk3.grown hgr (fun k hlt e => by have := (HO0.out.lt k e).1; omega)
     have HO1 := Lib.hid ho
     clear ho hgr
     go_wp2
     exact ⟨⟨1, by omega, by simp, by simpa using HO1.out, hK⟩, by simp [intOf]⟩
    | 1, _ =>
     have hown0 : wr.ownsRow w.heap.size 33 1 _ k xs := hown3
     have HO0 := Lib.hid hown0
     clear hown3 hown0
     go_wp2_with (at_builtin; refine wpList_append_own _ rfl _ _ 22 rfl w.heap.size 33 i0 (.int .u64 0) 1 8 Tryz.underlying22 hi hz0 hz1 hz2 rfl (by decide) _ _ _ rfl HO0.out ⟨h2, 0, none⟩ 1 1 [.int .u64 0] rfl (by simp) (fun j u hj => hk3.cell (HS2.out j u hj) (fun e => e)) (by simp [Value.oneCell']) (by unfold maxLen; omega) (by omega) hsz3 ?_)
     intro v' w' ho hgr _
     have hK : Kp (fun _ => False) w w' := hk3.grown hgr (fun k hlt e => by have := (HO0.out.lt k e).1; omega)
     have HO1 := Lib.hid ho
     clear ho hgr
     go_wp2
     exact ⟨⟨2, by omega, by simp, by simpa using HO1.out, hK⟩, by simp [intOf]⟩
    | 2, _ =>
     have hown0 : wr.ownsRow w.heap.size 33 1 _ (k + 1) (xs ++ [.int .u64 0]) := hown3
     obtain ⟨g2, cap2, cur2, hv2, _⟩ : ∃ g cap cur, _ = Value.slice (some ⟨g, 0, none⟩) (k + 1) cap ∧ wr.heap[g]? = some (.cells cur 33 (0, 0)) := by
      rcases hown0.2 with ⟨_, hh⟩ | ⟨g, cap, cur, hv, hg, hh, _⟩
      ·omega
      ·exact ⟨g, cap, cur, hv, hh⟩
     have HO0 := Lib.hid hown0
     clear hown3 hown0
     go_wp2_with fail
     subst hv2
     go_ret
     exact ⟨g2, cap2, rfl, HO0.out, hk3⟩
end Go.Proofs.YtgdoeoackhfikaaGreatDoor

/-
  Parts of the proof of runnerSkips_holds: LayoutA, LayoutB, Post, MemC, Clones, LayoutX.
-/
import Derived.Test.YtgdoeoackhfikaaGreatDoorQA2
import Derived.Deep.QuietTactic
import Derived.BigQuiet
import Derived.Deep.RegionLaw
import Derived.Deep.DrawnRows
import Derived.IntWalk
import Derived.OwnWalk
namespace Go.Proofs.YtgdoeoackhfikaaGreatDoor
set_option linter.unusedVariables false
open Go.RowKit
set_option maxRecDepth 100000
set_option maxHeartbeats 2000000
set_option linter.unusedSimpArgs false
attribute [local go_sem] hs_other hs_alloc hs_falloc
attribute [local go_sem ↓] Go.wp_at_zero Go.wp_at_succ
def LCfg.v (c : LCfg) : Value := .agg #[.int .i64 c.nodes, .int .i64 c.slots, .int .i64 c.holders, .int .u32 c.tag]
theorem layout_Check_ok (c : LCfg) (w : World) (h : c.right) :
  Calls Tryz.prog 74 #[c.v] w fun e w' => e = .returned (.int .i64 0) ∧ Below w.heap.size w w' := by
 obtain ⟨n, s, ho, t⟩ := c
 obtain ⟨h1, h2, h3, h4, h5, h6⟩ := h
 simp only at h1 h2 h3 h4 h5 h6
 unfold LCfg.v
 go_enter Tryz.func74, Tryz.ntmps74
 go_wp2
 go_ret
 exact ⟨rfl, by go_grown⟩
theorem layout_begins (c : LCfg) (w : World) (h : c.right) :
  Calls Tryz.prog 99 #[c.v] w fun e w' => e = .returned (.agg #[.int .i64 2, .int .i64 (2 + 2 * c.nodes), .int .i64 (2 + 2 * c.nodes + c.slots), .int .i64 (2 + 2 * c.nodes + c.slots + c.holders)]) ∧ Below w.heap.size w w' := by
 have hchk := fun w => layout_Check_ok c w h
 have i0 : ∀ (a b c : Value) (w : World), (Instr.index 232 (.agg #[a, b, c]) (.int .i64 0)).run Tryz.prog w = .ok a w := fun a b c w => by simp [Instr.index, run_underlying Tryz.underlying232, go_sem, Result.andThen]
 have i1 : ∀ (a b c : Value) (w : World), (Instr.index 232 (.agg #[a, b, c]) (.int .i64 1)).run Tryz.prog w = .ok b w := fun a b c w => by simp [Instr.index, run_underlying Tryz.underlying232, go_sem, Result.andThen]
 have i2 : ∀ (a b c : Value) (w : World), (Instr.index 232 (.agg #[a, b, c]) (.int .i64 2)).run Tryz.prog w = .ok c w := fun a b c w => by simp [Instr.index, run_underlying Tryz.underlying232, go_sem, Result.andThen]
 obtain ⟨n, s, ho, t⟩ := c
 obtain ⟨h1, h2, h3, h4, h5, h6⟩ := h
 simp only at h1 h2 h3 h4 h5 h6
 unfold LCfg.v at *
 go_enter Tryz.func99, Tryz.ntmps99
 go_wp2_with fail
 refine (hchk _).mono ?_
 rintro e w1 ⟨rfl, hb1⟩
 obtain ⟨q0, _, l0⟩ := obj_cells (w := w1) (b := w.heap.size) (cs := #[.int .i64 n, .int .i64 s, .int .i64 ho, .int .u32 t]) (t := 32) (obj_below hb1 (by simp (disch := first | omega | (simp; done) | (simp; omega)) only [hp_drew, hp_alloc, hp_new]))
 have p1 : w1.heap[w.heap.size + 1]? = some (.cells #[.int .i64 0, .int .i64 0, .int .i64 0, .int .i64 0] 213 (0, 0)) := (obj_below hb1 (by simp (disch := first | omega | (simp; done) | (simp; omega)) only [hp_drew, hp_alloc, hp_new]))
 obtain ⟨q1, f1, l1⟩ := obj_cells p1
 have HP := Lib.hid p1
 clear p1
 go_wp2
 go_rounds 5
 refine any_world (p := fun W => bodyPost _ _ _ _ _ W) ?_
 intro W hW
 have hR := set4 (W := w1) (v0 := .int .i64 2) (v1 := .int .i64 (2 + 2 * n)) (v2 := .int .i64 (2 + 2 * n + s)) (v3 := .int .i64 (2 + 2 * n + s + ho)) HP.out
 have hR2 : W.heap[w.heap.size + 1]? = some (.cells #[.int .i64 2, .int .i64 (2 + 2 * n), .int .i64 (2 + 2 * n + s), .int .i64 (2 + 2 * n + s + ho)] 213 (0, 0)) := by rw [hW]; exact (hp_alloc _ _ _ (by simp; omega)).trans hR
 obtain ⟨q2, _, _⟩ := obj_cells hR2
 have hk1 : Kp (fun _ => False) w w1 := (Kp.nb (w := w) (by go_grown)).comp (Kp.of_below hb1 _) (fun _ _ e => e)
 have hK : Kp (fun _ => False) w W := by
  rw [hW]
  exact ((((hk1.new (Nat.le_succ _) _ _).new (Nat.le_succ _) _ _).new (Nat.le_succ _) _ _).new (Nat.le_succ _) _ _).alloc _
 clear hW
 exact bodyPost_ret (v := .agg #[.int .i64 2, .int .i64 (2 + 2 * n), .int .i64 (2 + 2 * n + s), .int .i64 (2 + 2 * n + s + ho)]) (by simp [results, Tryz.results99, go_sem, q2]) rfl ⟨rfl, hK.blw⟩
def placeOf (b n k : Int) : Int := if 0 ≤ k ∧ k < n then b + k else -1
theorem layout_at0 (c : LCfg) (w : World) (h : c.right) (k : Int) (hk : -1000 ≤ k ∧ k ≤ 10000000000) :
  Calls Tryz.prog 100 #[c.v, .int .i64 0, .int .i64 k] w fun e w' => e = .returned (.int .i64 (placeOf 2 (2 * c.nodes) k)) ∧ Below w.heap.size w w' := by
 have hbe := fun w => layout_begins c w h
 obtain ⟨n, s, ho, t⟩ := c
 obtain ⟨h1, h2, h3, h4, h5, h6⟩ := h
 simp only at h1 h2 h3 h4 h5 h6 hbe
 unfold LCfg.v at *
 show Calls _ _ _ _ (fun e w' => e = .returned (.int .i64 (placeOf 2 (2 * n) k)) ∧ Below w.heap.size w w')
 go_enter Tryz.func100, Tryz.ntmps100
 go_wp2_with fail
 refine (hbe _).mono ?_
 rintro e w1 ⟨rfl, hb1⟩
 have hK1 : Kp (fun _ => False) w w1 := (Kp.nb (w := w) (by go_grown)).comp (Kp.of_below hb1 _) (fun _ _ e => e)
 by_cases k0 : k < 0
 ·have e : placeOf 2 (2 * n) k = -1 := by unfold placeOf; rw [if_neg (by omega)]
  have HE := Lib.hid e
  clear e
  go_wp2
  go_quiet (fail)
  go_wp2
  go_ret
  rw [HE.out]
  exact ⟨rfl, ((hK1.alloc _).drewN _).blw⟩
 have hd : decide (k < 0) = false := by simpa using k0
 have hw : IntKind.i64.wrap (2 + 2 * n - 2) = 2 * n := by rw [IntWalk.i64_in _ (by omega)]; omega
 have k0' : 0 ≤ k := by omega
 by_cases k1 : k < 2 * n
 ·have e : placeOf 2 (2 * n) k = 2 + k := by unfold placeOf; rw [if_pos (by omega)]
  have HE := Lib.hid e
  clear e
  have hd2 : decide (2 * n ≤ k) = false := by simp; omega
  go_wp2
  refine wp_world ?_
  intro W hW
  have hB : W.heap[w1.heap.size]? = some (.cells #[.int .i64 2, .int .i64 (2 + 2 * n), .int .i64 (2 + 2 * n + s), .int .i64 (2 + 2 * n + s + ho)] 213 (0, 0)) := by rw [hW]; exact hp_new _ _ _ rfl
  obtain ⟨q0, _, _⟩ := obj_cells hB
  have c0 : W.cell? ⟨w1.heap.size, 0, none⟩ = some (.int .i64 2) := q0 0
  have c1 : W.cell? ⟨w1.heap.size, 1, none⟩ = some (.int .i64 (2 + 2 * n)) := q0 1
  have hK : Kp (fun _ => False) w W := by rw [hW]; exact hK1.alloc _
  clear hW hB q0
  go_quiet (fail)
  go_wp2
  go_ret
  rw [HE.out]
  exact ⟨rfl, (hK.drewN _).blw⟩
 ·have e : placeOf 2 (2 * n) k = -1 := by unfold placeOf; rw [if_neg (by omega)]
  have HE := Lib.hid e
  clear e
  have hd2 : decide (2 * n ≤ k) = true := by simp; omega
  go_wp2
  refine wp_world ?_
  intro W hW
  have hB : W.heap[w1.heap.size]? = some (.cells #[.int .i64 2, .int .i64 (2 + 2 * n), .int .i64 (2 + 2 * n + s), .int .i64 (2 + 2 * n + s + ho)] 213 (0, 0)) := by rw [hW]; exact hp_new _ _ _ rfl
  obtain ⟨q0, _, _⟩ := obj_cells hB
  have c0 : W.cell? ⟨w1.heap.size, 0, none⟩ = some (.int .i64 2) := q0 0
  have c1 : W.cell? ⟨w1.heap.size, 1, none⟩ = some (.int .i64 (2 + 2 * n)) := q0 1
  have hK : Kp (fun _ => False) w W := by rw [hW]; exact hK1.alloc _
  clear hW hB q0
  go_quiet (fail)
  go_wp2
  go_ret
  rw [HE.out]
  exact ⟨rfl, (hK.drewN _).blw⟩
theorem layout_at1 (c : LCfg) (w : World) (h : c.right) (k : Int) (hk : -1000 ≤ k ∧ k ≤ 10000000000) :
  Calls Tryz.prog 100 #[c.v, .int .i64 1, .int .i64 k] w fun e w' => e = .returned (.int .i64 (placeOf (2 + 2 * c.nodes) c.slots k)) ∧ Below w.heap.size w w' := by
 have hbe := fun w => layout_begins c w h
 obtain ⟨n, s, ho, t⟩ := c
 obtain ⟨h1, h2, h3, h4, h5, h6⟩ := h
 simp only at h1 h2 h3 h4 h5 h6 hbe
 unfold LCfg.v at *
 show Calls _ _ _ _ (fun e w' => e = .returned (.int .i64 (placeOf (2 + 2 * n) s k)) ∧ Below w.heap.size w w')
 go_enter Tryz.func100, Tryz.ntmps100
 go_wp2_with fail
 refine (hbe _).mono ?_
 rintro e w1 ⟨rfl, hb1⟩
 have hK1 : Kp (fun _ => False) w w1 := (Kp.nb (w := w) (by go_grown)).comp (Kp.of_below hb1 _) (fun _ _ e => e)
 by_cases k0 : k < 0
 ·have e : placeOf (2 + 2 * n) s k = -1 := by unfold placeOf; rw [if_neg (by omega)]
  have HE := Lib.hid e
  clear e
  go_wp2
  go_quiet (fail)
  go_wp2
  go_ret
  rw [HE.out]
  exact ⟨rfl, ((hK1.alloc _).drewN _).blw⟩
 have hd : decide (k < 0) = false := by simpa using k0
 have hw : IntKind.i64.wrap (2 + 2 * n + s - (2 + 2 * n)) = s := by rw [IntWalk.i64_in _ (by omega)]; omega
 have k0' : 0 ≤ k := by omega
 by_cases k1 : k < s
 ·have e : placeOf (2 + 2 * n) s k = 2 + 2 * n + k := by unfold placeOf; rw [if_pos (by omega)]
  have HE := Lib.hid e
  clear e
  have hd2 : decide (s ≤ k) = false := by simp; omega
  go_wp2
  refine wp_world ?_
  intro W hW
  have hB : W.heap[w1.heap.size]? = some (.cells #[.int .i64 2, .int .i64 (2 + 2 * n), .int .i64 (2 + 2 * n + s), .int .i64 (2 + 2 * n + s + ho)] 213 (0, 0)) := by rw [hW]; exact hp_new _ _ _ rfl
  obtain ⟨q0, _, _⟩ := obj_cells hB
  have c0 : W.cell? ⟨w1.heap.size, 1, none⟩ = some (.int .i64 (2 + 2 * n)) := q0 1
  have c1 : W.cell? ⟨w1.heap.size, 2, none⟩ = some (.int .i64 (2 + 2 * n + s)) := q0 2
  have hK : Kp (fun _ => False) w W := by rw [hW]; exact hK1.alloc _
  clear hW hB q0
  go_quiet (fail)
  go_wp2
  go_ret
  rw [HE.out]
  exact ⟨rfl, (hK.drewN _).blw⟩
 ·have e : placeOf (2 + 2 * n) s k = -1 := by unfold placeOf; rw [if_neg (by omega)]
  have HE := Lib.hid e
  clear e
  have hd2 : decide (s ≤ k) = true := by simp; omega
  go_wp2
  refine wp_world ?_
  intro W hW
  have hB : W.heap[w1.heap.size]? = some (.cells #[.int .i64 2, .int .i64 (2 + 2 * n), .int .i64 (2 + 2 * n + s), .int .i64 (2 + 2 * n + s + ho)] 213 (0, 0)) := by rw [hW]; exact hp_new _ _ _ rfl
  obtain ⟨q0, _, _⟩ := obj_cells hB
  have c0 : W.cell? ⟨w1.heap.size, 1, none⟩ = some (.int .i64 (2 + 2 * n)) := q0 1
  have c1 : W.cell? ⟨w1.heap.size, 2, none⟩ = some (.int .i64 (2 + 2 * n + s)) := q0 2
  have hK : Kp (fun _ => False) w W := by rw [hW]; exact hK1.alloc _
  clear hW hB q0
  go_quiet (fail)
  go_wp2
  go_ret
  rw [HE.out]
  exact ⟨rfl, (hK.drewN _).blw⟩
end Go.Proofs.YtgdoeoackhfikaaGreatDoor

namespace Go.Proofs.YtgdoeoackhfikaaGreatDoor
set_option linter.unusedVariables false
open Go.RowKit
set_option maxRecDepth 100000
set_option maxHeartbeats 2000000
set_option linter.unusedSimpArgs false
attribute [local go_sem] hs_other hs_alloc hs_falloc
attribute [local go_sem ↓] Go.wp_at_zero Go.wp_at_succ
theorem layout_Next (c : LCfg) (w : World) (h : c.right) (i : Int) (hi : 0 ≤ i ∧ i < 4294967296) :
  Calls Tryz.prog 77 #[c.v, .int .u32 i] w fun e w' => e = .returned (.int .i64 (c.nextAt i)) ∧ Below w.heap.size w w' := by
 have hat := fun w => layout_at0 c w h (2 * (i - 1)) (by omega)
 have e : placeOf 2 (2 * c.nodes) (2 * (i - 1)) = c.nextAt i := by
  unfold placeOf LCfg.nextAt
  by_cases h1 : 1 ≤ i ∧ i ≤ c.nodes
  ·rw [if_pos h1, if_pos (by omega)]; omega
  ·rw [if_neg h1, if_neg (by omega)]
 rw [e] at hat
 clear e h
 unfold LCfg.v at *
 go_enter Tryz.func77, Tryz.ntmps77
 go_wp2_with fail
 refine (hat _).mono ?_
 rintro e w1 ⟨rfl, hb1⟩
 go_wp2
 go_ret
 exact ⟨rfl, Kp.blw ((Kp.nb (w := w) (by go_grown)).comp (Kp.of_below hb1 _) (fun _ _ e => e))⟩
theorem layout_Value (c : LCfg) (w : World) (h : c.right) (i : Int) (hi : 0 ≤ i ∧ i < 4294967296) :
  Calls Tryz.prog 237 #[c.v, .int .u32 i] w fun e w' => e = .returned (.int .i64 (c.valueAt i)) ∧ Below w.heap.size w w' := by
 by_cases h0 : i = 0
 ·subst h0
  have e : c.valueAt 0 = -1 := by unfold LCfg.valueAt; rw [if_neg (by omega)]
  rw [e]
  clear e h
  unfold LCfg.v at *
  go_enter Tryz.func237, Tryz.ntmps237
  go_wp2
  go_ret
  exact ⟨rfl, by go_grown⟩
 have hat := fun w => layout_at0 c w h (2 * (i - 1) + 1) (by omega)
 have e : placeOf 2 (2 * c.nodes) (2 * (i - 1) + 1) = c.valueAt i := by
  unfold placeOf LCfg.valueAt
  by_cases h1 : 1 ≤ i ∧ i ≤ c.nodes
  ·rw [if_pos h1, if_pos (by omega)]; omega
  ·rw [if_neg h1, if_neg (by omega)]
 rw [e] at hat
 have hz : (i == 0) = false := beq_eq_false_iff_ne.2 h0
 clear e h
 unfold LCfg.v at *
 go_enter Tryz.func237, Tryz.ntmps237
 go_wp2_with fail
 refine (hat _).mono ?_
 rintro e w1 ⟨rfl, hb1⟩
 go_wp2
 go_ret
 exact ⟨rfl, Kp.blw ((Kp.nb (w := w) (by go_grown)).comp (Kp.of_below hb1 _) (fun _ _ e => e))⟩
theorem layout_Slot (c : LCfg) (w : World) (h : c.right) (k : Int) (hk : -1000 ≤ k ∧ k ≤ 10000000000) :
  Calls Tryz.prog 78 #[c.v, .int .i64 k] w fun e w' => e = .returned (.int .i64 (c.slotAt k)) ∧ Below w.heap.size w w' := by
 have hat := fun w => layout_at1 c w h k hk
 have e : placeOf (2 + 2 * c.nodes) c.slots k = c.slotAt k := rfl
 rw [e] at hat
 clear e h
 unfold LCfg.v at *
 go_enter Tryz.func78, Tryz.ntmps78
 go_wp2_with fail
 refine (hat _).mono ?_
 rintro e w1 ⟨rfl, hb1⟩
 go_wp2
 go_ret
 exact ⟨rfl, Kp.blw ((Kp.nb (w := w) (by go_grown)).comp (Kp.of_below hb1 _) (fun _ _ e => e))⟩
theorem layout_Cells (c : LCfg) (w : World) (h : c.right) :
  Calls Tryz.prog 75 #[c.v] w fun e w' => e = .returned (.int .i64 c.cells) ∧ Below w.heap.size w w' := by
 have hat := fun w => layout_begins c w h
 have e : 2 + 2 * c.nodes + c.slots + c.holders = c.cells := rfl
 rw [e] at hat
 have i3 : ∀ (a b c d : Value) (w : World), (Instr.index 213 (.agg #[a, b, c, d]) (.int .i64 3)).run Tryz.prog w = .ok d w := fun a b c d w => by simp [Instr.index, run_underlying Tryz.underlying213, go_sem, Result.andThen]
 clear e h
 unfold LCfg.v at *
 go_enter Tryz.func75, Tryz.ntmps75
 go_wp2_with fail
 refine (hat _).mono ?_
 rintro e w1 ⟨rfl, hb1⟩
 go_wp2
 go_ret
 exact ⟨rfl, Kp.blw ((Kp.nb (w := w) (by go_grown)).comp (Kp.of_below hb1 _) (fun _ _ e => e))⟩
end Go.Proofs.YtgdoeoackhfikaaGreatDoor

namespace Go.Proofs.YtgdoeoackhfikaaGreatDoor
set_option linter.unusedSimpArgs false
open Go.RowKit Go.Proofs.YtgdoeoackhfikaaGreatDoorW.PrintWords
set_option maxRecDepth 100000
set_option linter.unusedVariables false
def grownF (F : Nat → Prop) (w w' : World) (nv' : Value) (k : Nat) : Prop := F k ∨ (w.heap.size ≤ k ∧ k < w'.heap.size ∧ nv'.ownBlock ≠ some k)
def Post (F : Nat → Prop) (w : World) (b : MB) (σ' : MemS) (w' : World) (X : World → (Nat → Prop) → Prop) : Prop :=
 ∃ nv', MemAt w' { b with nv := nv' } σ' ∧ (∀ k, nv'.ownBlock = some k → b.nv.ownBlock = some k ∨ w.heap.size ≤ k) ∧ Kp (fun k => F k ∨ b.has k) w w' ∧ X w' (grownF F w w' nv')
structure Apart (w : World) (b : MB) (F : Nat → Prop) : Prop where
 ne : ∀ k, F k → ¬ b.has k
 lt : ∀ k, F k → k < w.heap.size
theorem MemAt.lt {w : World} {b : MB} {σ : MemS} (h : MemAt w b σ) : ∀ k, b.has k → k < w.heap.size := fun k hk => by
 rcases hk with rfl | rfl | hk
 ·exact h.ltm
 ·exact h.ltg
 ·exact (h.notes.lt k hk).2
theorem MemAt.same {w W : World} {b : MB} {σ : MemS} (h : MemAt w b σ) (hk : Kp (fun _ => False) w W) : MemAt W b σ := h.kept hk (fun _ _ e => e)
theorem Apart.next {F : Nat → Prop} {w w' : World} {b : MB} {σ σ' : MemS} {nv' : Value} (hA : Apart w b F) (hb : MemAt w b σ) (hm : MemAt w' { b with nv := nv' } σ') (hn : ∀ k, nv'.ownBlock = some k → b.nv.ownBlock = some k ∨ w.heap.size ≤ k) (hs : w.heap.size ≤ w'.heap.size) : Apart w' { b with nv := nv' } (grownF F w w' nv') := by
 refine ⟨fun k hk hb' => ?_, fun k hk => ?_⟩
 ·rcases hk with hk | ⟨h1, h2, h3⟩
  ·have hl := hA.lt k hk
   rcases hb' with h | h | h
   ·exact hA.ne k hk (.inl h)
   ·exact hA.ne k hk (.inr (.inl h))
   ·rcases hn k h with h | h
    ·exact hA.ne k hk (.inr (.inr h))
    ·omega
  ·rcases hb' with h | h | h
   ·have := hb.ltm; have h' : k = b.m := h; omega
   ·have := hb.ltg; have h' : k = b.g := h; omega
   ·exact h3 h
 ·rcases hk with hk | ⟨h1, h2, h3⟩
  ·exact Nat.lt_of_lt_of_le (hA.lt k hk) hs
  ·exact h2
theorem Post.mk3 {F : Nat → Prop} {w w0 w1 w' : World} {b : MB} {σ σ' : MemS} {X : World → (Nat → Prop) → Prop} (hb : MemAt w b σ) (hA : Apart w b F) (h0 : Kp (fun _ => False) w w0) (hp : MemPost w0 b σ' w1)
  (hk : Kp (fun k => F k ∨ (w.heap.size ≤ k ∧ k < w0.heap.size)) w1 w')
  (hX : ∀ F' : Nat → Prop, (∀ k, F k → F' k) → (∀ k, w.heap.size ≤ k → k < w0.heap.size → F' k) → (∀ k, w1.heap.size ≤ k → k < w'.heap.size → F' k) → X w' F') : Post F w b σ' w' X := by
 obtain ⟨nv', hm, hn, hkm⟩ := hp
 have s0 := h0.size
 have s1 := hkm.size
 have s2 := hk.size
 have hn1 : ∀ k, nv'.ownBlock = some k → k < w1.heap.size := fun k h => (hm.notes.lt k h).2
 have hn0 : ∀ k, b.nv.ownBlock = some k → k < w.heap.size := fun k h => (hb.notes.lt k h).2
 refine ⟨nv', hm.kept hk ?_, fun k h => (hn k h).imp id (fun h => by omega), ?_, hX _ (fun k h => .inl h) (fun k h1 h2 => .inr ⟨h1, by omega, fun e => ?_⟩) (fun k h1 h2 => .inr ⟨by omega, h2, fun e => ?_⟩)⟩
 ·intro k hk' hF
  rcases hF with hF | ⟨h1, h2⟩
  ·have hl := hA.lt k hF
   rcases hk' with h | h | h
   ·exact hA.ne k hF (.inl h)
   ·exact hA.ne k hF (.inr (.inl h))
   ·rcases hn k h with h | h
    ·exact hA.ne k hF (.inr (.inr h))
    ·omega
  ·rcases hk' with h | h | h
   ·have := hb.ltm; have h' : k = b.m := h; omega
   ·have := hb.ltg; have h' : k = b.g := h; omega
   ·rcases hn k h with h | h
    ·have := hn0 k h; omega
    ·omega
 ·exact ((h0.mono (S2 := fun k => F k ∨ b.has k) (fun _ e => e.elim)).comp hkm (fun _ _ e => .inr e)).comp hk (fun k hk' e => by
   rcases e with e | e
   ·exact .inl e
   ·omega)
 ·rcases hn k e with h | h
  ·have := hn0 k h; omega
  ·omega
 ·have := hn1 k e; omega
theorem Post.mk0 {F : Nat → Prop} {w w' : World} {b : MB} {σ : MemS} {X : World → (Nat → Prop) → Prop} (hb : MemAt w b σ) (hA : Apart w b F) (hk : Kp F w w')
  (hX : ∀ F' : Nat → Prop, (∀ k, F k → F' k) → (∀ k, w.heap.size ≤ k → k < w'.heap.size → F' k) → X w' F') : Post F w b σ w' X := by
 have hn0 : ∀ k, b.nv.ownBlock = some k → k < w.heap.size := fun k h => (hb.notes.lt k h).2
 refine ⟨b.nv, hb.kept hk (fun k h1 h2 => hA.ne k h2 h1), fun k h => .inl h, hk.mono (fun _ e => .inl e), hX _ (fun k h => .inl h) (fun k h1 h2 => .inr ⟨h1, h2, fun e => ?_⟩)⟩
 have := hn0 k e
 omega
theorem Post.imp {F : Nat → Prop} {w w' : World} {b : MB} {σ' : MemS} {X Y : World → (Nat → Prop) → Prop} (h : Post F w b σ' w' X) (hXY : ∀ F', X w' F' → Y w' F') : Post F w b σ' w' Y := by
 obtain ⟨nv', a, b', c, d⟩ := h
 exact ⟨nv', a, b', c, hXY _ d⟩
end Go.Proofs.YtgdoeoackhfikaaGreatDoor

namespace Go.Proofs.YtgdoeoackhfikaaGreatDoor
set_option linter.unusedSimpArgs false
open Go.RowKit Go.Proofs.YtgdoeoackhfikaaGreatDoorW.PrintWords
set_option maxRecDepth 100000
set_option linter.unusedVariables false
def LoadSays (w : World) (b : MB) (σ : MemS) (a : Int) (e : Ending) (w' : World) : Prop :=
 (σ.has a → e = .returned (.tuple #[.int .u64 (σ.get a), .int .i64 0]) ∧ MemPost w b (σ.load a) w') ∧ (¬ σ.has a → e = .returned (.tuple #[.int .u64 0, .int .i64 2]) ∧ Kp (fun _ => False) w w')
theorem mem_load (w : World) (b : MB) (σ : MemS) (h : MemAt w b σ) (hfn : σ.notes.length < 1000000000) (a : Int) :
  Calls Tryz.prog 216 #[.pointer (some ⟨b.m, 0, none⟩), .int .i64 a] w (LoadSays w b σ a) := by
 by_cases hh : σ.has a
 ·obtain ⟨k, rfl⟩ : ∃ k : Nat, a = k := ⟨a.toNat, by unfold MemS.has at hh; omega⟩
  exact (mem_Load w b σ h k (by unfold MemS.has at hh; omega) hfn).mono fun e w' hp => ⟨fun _ => hp, fun hn => absurd hh hn⟩
 ·exact (mem_Load_no w b σ h a hh).mono fun e w' hp => ⟨fun hn => absurd hn hh, fun _ => hp⟩
def StoreSays (w : World) (b : MB) (σ : MemS) (a v : Int) (e : Ending) (w' : World) : Prop :=
 (σ.has a → e = .returned (.int .i64 0) ∧ MemPost w b (σ.store a v) w') ∧ (¬ σ.has a → e = .returned (.int .i64 2) ∧ Kp (fun _ => False) w w')
theorem mem_store (w : World) (b : MB) (σ : MemS) (h : MemAt w b σ) (hfn : σ.notes.length < 1000000000) (a v : Int) (hv : 0 ≤ v ∧ v < 18446744073709551616) :
  Calls Tryz.prog 244 #[.pointer (some ⟨b.m, 0, none⟩), .int .i64 a, .int .u64 v] w (StoreSays w b σ a v) := by
 by_cases hh : σ.has a
 ·obtain ⟨k, rfl⟩ : ∃ k : Nat, a = k := ⟨a.toNat, by unfold MemS.has at hh; omega⟩
  exact (mem_Store w b σ h k (by unfold MemS.has at hh; omega) hfn v hv).mono fun e w' hp => ⟨fun _ => hp, fun hn => absurd hh hn⟩
 ·exact (mem_Store_no w b σ h a hh v).mono fun e w' hp => ⟨fun hn => absurd hn hh, fun _ => hp⟩
def SwapSays (w : World) (b : MB) (σ : MemS) (a old v : Int) (e : Ending) (w' : World) : Prop :=
 (σ.has a → e = .returned (.tuple #[.bool (decide (σ.get a = old)), .int .i64 0]) ∧ MemPost w b (σ.swap a old v) w') ∧ (¬ σ.has a → e = .returned (.tuple #[.bool false, .int .i64 2]) ∧ Kp (fun _ => False) w w')
theorem mem_swap (w : World) (b : MB) (σ : MemS) (h : MemAt w b σ) (hfn : σ.notes.length < 1000000000) (a old v : Int) (hv : 0 ≤ v ∧ v < 18446744073709551616) :
  Calls Tryz.prog 223 #[.pointer (some ⟨b.m, 0, none⟩), .int .i64 a, .int .u64 old, .int .u64 v] w (SwapSays w b σ a old v) := by
 by_cases hh : σ.has a
 ·obtain ⟨k, rfl⟩ : ∃ k : Nat, a = k := ⟨a.toNat, by unfold MemS.has at hh; omega⟩
  have hk : k < σ.words.length := by unfold MemS.has at hh; omega
  by_cases ho : σ.get k = old
  ·subst ho
   exact (mem_Swap_yes w b σ h k hk hfn v hv).mono fun e w' hp => ⟨fun _ => by simpa using hp, fun hn => absurd hh hn⟩
  ·exact (mem_Swap_not w b σ h k hk hfn old v ho).mono fun e w' hp => ⟨fun _ => by simpa [ho] using hp, fun hn => absurd hh hn⟩
 ·exact (mem_Swap_no w b σ h a hh old v).mono fun e w' hp => ⟨fun hn => absurd hn hh, fun _ => hp⟩
theorem MemAt.not_has {w : World} {b : MB} {σ : MemS} (h : MemAt w b σ) {k : Nat} {cs : Array Value} {u : TypeId} {f : Nat × Nat} (hk : w.heap[k]? = some (.cells cs u f)) (h1 : u ≠ 147) (h2 : u ≠ 33) (h3 : u ≠ 340) : ¬ b.has k := by
 intro hh
 rcases hh with hh | hh | hh
 ·subst hh
  exact ne_of_type hk h.own h1 rfl
 ·subst hh
  obtain ⟨cur, hr, _⟩ := h.row
  exact ne_of_type hk hr h2 rfl
 ·exact ne_of_row hk h.notes h3 k hh rfl
theorem MemPost.kp {w w' : World} {b : MB} {σ' : MemS} (h : MemPost w b σ' w') : Kp b.has w w' := by obtain ⟨_, _, _, h⟩ := h; exact h
theorem MemPost.before {w w1 w2 : World} {b : MB} {σ σ' : MemS} (hb : MemAt w b σ) (h1 : Kp (fun _ => False) w w1) (hp : MemPost w1 b σ' w2) : MemPost w b σ' w2 := MemPost.wrap hb h1 hp ((Kp.refl _ _))
theorem ks {W : World} {p q : Addr} {u v : Value} {B : Nat} (hl : q.block < B) (hB : B ≤ p.block) (h : W.cell? q = some v) : (W.setCell p u).cell? q = some v := (World.cell?_setCell_other _ _ _ _ (fun e => by rw [e] at hB; omega)).trans h
theorem undrew {w W : World} (h : Below w.drew.heap.size w.drew W) : Below w.heap.size w W := ⟨h.os, h.tape, h.output, h.size, h.block⟩
theorem MemPost.undrew {w w' : World} {b : MB} {σ' : MemS} (h : MemPost w.drew b σ' w') : MemPost w b σ' w' := by
 obtain ⟨nv', a, c, d⟩ := h
 exact ⟨nv', a, c, ⟨d.os, d.tape, d.output, d.size, d.block⟩⟩
theorem Kp.undrew {S : Nat → Prop} {w W : World} (d : Kp S w.drew W) : Kp S w W := ⟨d.os, d.tape, d.output, d.size, d.block⟩
end Go.Proofs.YtgdoeoackhfikaaGreatDoor

namespace Go.Proofs.YtgdoeoackhfikaaGreatDoor
open Go.RowKit Go.Proofs.YtgdoeoackhfikaaGreatDoorW.PrintWords
set_option linter.unusedVariables false
set_option linter.unusedSimpArgs false
set_option maxHeartbeats 4000000
set_option maxRecDepth 100000
theorem row_one {w : World} {base : Nat} {e : TypeId} {size n : Nat} {v : Value} {xs : List Value} (h : w.ownsRow base e size v n xs) : ∀ j u, xs[j]? = some u → ∀ g, v.ownBlock = some g → w.cell? ⟨g, j, none⟩ = some u := fun j u hj g hg => by
 have := h.cells hg j u hj
 rwa [addr_add] at this
theorem info_u32 : (Tryz.prog.info? 30).map (fun i => (i.zero, i.size, i.bytes)) = some (some (.int .u32 0), 1, 4) := by kernel_rfl
theorem clone_u32 (w : World) (base : Nat) (v : Value) (n : Nat) (xs : List Value) (hr : w.ownsRow base 30 1 v n xs) (h1 : ∀ u ∈ xs, u.oneCell' = true) (hl : n * 4 ≤ 140737488355328) :
  Calls Tryz.prog 73 #[v] w fun e w' => ∃ v', e = .returned v' ∧ w'.ownsRow w.heap.size 30 1 v' n xs ∧ Below w.heap.size w w' := by
 rcases hr.2 with ⟨rfl, hn0⟩ | ⟨g, cap, cur, rfl, _, hg, hnc, hcm, hcs, hct⟩
 ·have hE : xs = [] := List.eq_nil_of_length_eq_zero (by rw [hr.1, hn0])
  have HE := Lib.hid hE
  have HN := Lib.hid hn0
  clear hE hr hn0
  have hn : ∀ W, (binOp .eql 81 (.slice none 0 0) (.slice none 0 0)).run Tryz.prog W = .ok (.bool true) W := fun W => Lib.run_eql_slice_nil (P := Tryz.prog) W 81 30 none 0 0 0 0 Tryz.underlying81
  go_enter Tryz.func73, Tryz.ntmps73
  go_wp2_with fail
  go_ret
  refine ⟨_, rfl, ?_, Below.refl _ _⟩
  rw [HE.out, HN.out]
  exact World.ownsRow_nil _ _ _ _
 ·obtain ⟨i0, hi, hz0, hz1, hz2⟩ := info_parts info_u32
  have hn : ∀ W, (binOp .eql 81 (.slice (some ⟨g, 0, none⟩) n cap) (.slice none 0 0)).run Tryz.prog W = .ok (.bool false) W := fun W => Lib.run_eql_slice_nil (P := Tryz.prog) W 81 30 (some ⟨g, 0, none⟩) n cap 0 0 Tryz.underlying81
  have hlen := hr.1
  have hcells : ∀ j u, xs[j]? = some u → (w.alloc (.cells #[] 30)).cell? ((⟨g, 0, none⟩ : Addr).add j) = some u := fun j u hj => kc _ (hr.cells rfl j u hj)
  have hown0 : (w.alloc (.cells #[] 30)).ownsRow w.heap.size 30 1 (.slice (some ⟨w.heap.size, 0, none⟩) 0 0) 0 [] := World.ownsRow_made w #[] 0 (Nat.le_refl _) (by simp) (by simp)
  have HC := Lib.hid hcells
  have HL := Lib.hid hlen
  have H1 := Lib.hid h1
  have hn1 : n ≤ 140737488355328 := by omega
  clear hcells hr hg hcs hct hlen h1
  unfold maxLen at hcm
  go_enter Tryz.func73, Tryz.ntmps73
  go_wp2_with (at_builtin; refine wpList_append_own _ rfl _ _ 81 rfl w.heap.size 30 i0 (.int .u32 0) 1 4 Tryz.underlying81 hi hz0 hz1 hz2 rfl (by decide) _ _ _ rfl hown0 ⟨g, 0, none⟩ n cap xs rfl HL.out HC.out H1.out (by unfold maxLen; omega) (by omega) (by simp) ?_)
  intro v' w1 hown1 hgr _
  go_wp2_with fail
  go_ret
  refine ⟨_, rfl, by simpa using hown1, ?_⟩
  exact ((Below.refl _ w).alloc (Nat.le_refl _) _).grown hgr (by simp) (fun k hk => by simp [Value.ownBlock] at hk; omega)
theorem info_u64 : (Tryz.prog.info? 33).map (fun i => (i.zero, i.size, i.bytes)) = some (some (.int .u64 0), 1, 8) := by kernel_rfl
theorem clone_u64 (w : World) (base : Nat) (v : Value) (n : Nat) (xs : List Value) (hr : w.ownsRow base 33 1 v n xs) (h1 : ∀ u ∈ xs, u.oneCell' = true) (hl : n * 8 ≤ 140737488355328) :
  Calls Tryz.prog 54 #[v] w fun e w' => ∃ v', e = .returned v' ∧ w'.ownsRow w.heap.size 33 1 v' n xs ∧ Below w.heap.size w w' := by
 rcases hr.2 with ⟨rfl, hn0⟩ | ⟨g, cap, cur, rfl, _, hg, hnc, hcm, hcs, hct⟩
 ·have hE : xs = [] := List.eq_nil_of_length_eq_zero (by rw [hr.1, hn0])
  have HE := Lib.hid hE
  have HN := Lib.hid hn0
  clear hE hr hn0
  have hn : ∀ W, (binOp .eql 22 (.slice none 0 0) (.slice none 0 0)).run Tryz.prog W = .ok (.bool true) W := fun W => Lib.run_eql_slice_nil (P := Tryz.prog) W 22 33 none 0 0 0 0 Tryz.underlying22
  go_enter Tryz.func54, Tryz.ntmps54
  go_wp2_with fail
  go_ret
  refine ⟨_, rfl, ?_, Below.refl _ _⟩
  rw [HE.out, HN.out]
  exact World.ownsRow_nil _ _ _ _
 ·obtain ⟨i0, hi, hz0, hz1, hz2⟩ := info_parts info_u64
  have hn : ∀ W, (binOp .eql 22 (.slice (some ⟨g, 0, none⟩) n cap) (.slice none 0 0)).run Tryz.prog W = .ok (.bool false) W := fun W => Lib.run_eql_slice_nil (P := Tryz.prog) W 22 33 (some ⟨g, 0, none⟩) n cap 0 0 Tryz.underlying22
  have hlen := hr.1
  have hcells : ∀ j u, xs[j]? = some u → (w.alloc (.cells #[] 33)).cell? ((⟨g, 0, none⟩ : Addr).add j) = some u := fun j u hj => kc _ (hr.cells rfl j u hj)
  have hown0 : (w.alloc (.cells #[] 33)).ownsRow w.heap.size 33 1 (.slice (some ⟨w.heap.size, 0, none⟩) 0 0) 0 [] := World.ownsRow_made w #[] 0 (Nat.le_refl _) (by simp) (by simp)
  have HC := Lib.hid hcells
  have HL := Lib.hid hlen
  have H1 := Lib.hid h1
  have hn1 : n ≤ 140737488355328 := by omega
  clear hcells hr hg hcs hct hlen h1
  unfold maxLen at hcm
  go_enter Tryz.func54, Tryz.ntmps54
  go_wp2_with (at_builtin; refine wpList_append_own _ rfl _ _ 22 rfl w.heap.size 33 i0 (.int .u64 0) 1 8 Tryz.underlying22 hi hz0 hz1 hz2 rfl (by decide) _ _ _ rfl hown0 ⟨g, 0, none⟩ n cap xs rfl HL.out HC.out H1.out (by unfold maxLen; omega) (by omega) (by simp) ?_)
  intro v' w1 hown1 hgr _
  go_wp2_with fail
  go_ret
  refine ⟨_, rfl, by simpa using hown1, ?_⟩
  exact ((Below.refl _ w).alloc (Nat.le_refl _) _).grown hgr (by simp) (fun k hk => by simp [Value.ownBlock] at hk; omega)
theorem info_ev : (Tryz.prog.info? 64).map (fun i => (i.zero, i.size, i.bytes)) = some (some (.agg #[.int .i64 0, .bool false, .bool false, .int .u64 0, .int .i64 0]), 5, 32) := by kernel_rfl
theorem clone_ev (w : World) (base : Nat) (v : Value) (n : Nat) (xs : List Value) (hr : w.ownsRow base 64 5 v n xs) (h1 : ∀ u ∈ xs, u.oneCell' = true) (hl : n * 32 ≤ 140737488355328) :
  Calls Tryz.prog 50 #[v] w fun e w' => ∃ v', e = .returned v' ∧ w'.ownsRow w.heap.size 64 5 v' n xs ∧ Below w.heap.size w w' := by
 rcases hr.2 with ⟨rfl, hn0⟩ | ⟨g, cap, cur, rfl, _, hg, hnc, hcm, hcs, hct⟩
 ·have hE : xs = [] := List.eq_nil_of_length_eq_zero (by rw [hr.1, hn0])
  have HE := Lib.hid hE
  have HN := Lib.hid hn0
  clear hE hr hn0
  have hn : ∀ W, (binOp .eql 45 (.slice none 0 0) (.slice none 0 0)).run Tryz.prog W = .ok (.bool true) W := fun W => Lib.run_eql_slice_nil (P := Tryz.prog) W 45 64 none 0 0 0 0 Tryz.underlying45
  go_enter Tryz.func50, Tryz.ntmps50
  go_wp2_with fail
  go_ret
  refine ⟨_, rfl, ?_, Below.refl _ _⟩
  rw [HE.out, HN.out]
  exact World.ownsRow_nil _ _ _ _
 ·obtain ⟨i0, hi, hz0, hz1, hz2⟩ := info_parts info_ev
  have hn : ∀ W, (binOp .eql 45 (.slice (some ⟨g, 0, none⟩) n cap) (.slice none 0 0)).run Tryz.prog W = .ok (.bool false) W := fun W => Lib.run_eql_slice_nil (P := Tryz.prog) W 45 64 (some ⟨g, 0, none⟩) n cap 0 0 Tryz.underlying45
  have hlen := hr.1
  have hcells : ∀ j u, xs[j]? = some u → (w.alloc (.cells #[] 64)).cell? ((⟨g, 0, none⟩ : Addr).add j) = some u := fun j u hj => kc _ (hr.cells rfl j u hj)
  have hown0 : (w.alloc (.cells #[] 64)).ownsRow w.heap.size 64 5 (.slice (some ⟨w.heap.size, 0, none⟩) 0 0) 0 [] := World.ownsRow_made w #[] 0 (Nat.le_refl _) (by simp) (by simp)
  have HC := Lib.hid hcells
  have HL := Lib.hid hlen
  have H1 := Lib.hid h1
  have hn1 : n ≤ 140737488355328 := by omega
  clear hcells hr hg hcs hct hlen h1
  unfold maxLen at hcm
  go_enter Tryz.func50, Tryz.ntmps50
  go_wp2_with (at_builtin; refine wpList_append_own _ rfl _ _ 45 rfl w.heap.size 64 i0 (.agg #[.int .i64 0, .bool false, .bool false, .int .u64 0, .int .i64 0]) 5 32 Tryz.underlying45 hi hz0 hz1 hz2 rfl (by decide) _ _ _ rfl hown0 ⟨g, 0, none⟩ n cap xs rfl HL.out HC.out H1.out (by unfold maxLen; omega) (by omega) (by simp) ?_)
  intro v' w1 hown1 hgr _
  go_wp2_with fail
  go_ret
  refine ⟨_, rfl, by simpa using hown1, ?_⟩
  exact ((Below.refl _ w).alloc (Nat.le_refl _) _).grown hgr (by simp) (fun k hk => by simp [Value.ownBlock] at hk; omega)
end Go.Proofs.YtgdoeoackhfikaaGreatDoor

namespace Go.Proofs.YtgdoeoackhfikaaGreatDoor.G
set_option linter.unusedVariables false
set_option linter.unusedSimpArgs false
open Go.RowKit Go.Proofs.YtgdoeoackhfikaaGreatDoor
def cfgOf (a0 a1 a2 a3 : Int) : LCfg := ⟨a0, a1, a2, a3⟩
def layout_Config_Cells.f (a0 a1 a2 a3 : Int) : Option Int := if (cfgOf a0 a1 a2 a3).right then some (cfgOf a0 a1 a2 a3).cells else none
theorem layout_Config_Cells.calls (a0 a1 a2 a3 : Int) (r : Int) (w : World) (h : layout_Config_Cells.f a0 a1 a2 a3 = some r) :
  Calls Tryz.prog 75 #[.agg #[.int .i64 a0, .int .i64 a1, .int .i64 a2, .int .u32 a3]] w fun e w' => e = .returned (.int .i64 r) ∧ Below w.heap.size w w' := by
 unfold layout_Config_Cells.f at h
 split at h
 ·rename_i hr
  injection h with h
  subst h
  exact layout_Cells _ w hr
 ·cases h
def layout_Config_Next.f (a0 a1 a2 a3 i : Int) : Option Int := if (cfgOf a0 a1 a2 a3).right ∧ 0 ≤ i ∧ i < 4294967296 then some ((cfgOf a0 a1 a2 a3).nextAt i) else none
theorem layout_Config_Next.calls (a0 a1 a2 a3 i : Int) (r : Int) (w : World) (h : layout_Config_Next.f a0 a1 a2 a3 i = some r) :
  Calls Tryz.prog 77 #[.agg #[.int .i64 a0, .int .i64 a1, .int .i64 a2, .int .u32 a3], .int .u32 i] w fun e w' => e = .returned (.int .i64 r) ∧ Below w.heap.size w w' := by
 unfold layout_Config_Next.f at h
 split at h
 ·rename_i hr
  injection h with h
  subst h
  exact layout_Next _ w hr.1 i hr.2
 ·cases h
def layout_Config_Slot.f (a0 a1 a2 a3 i : Int) : Option Int := if (cfgOf a0 a1 a2 a3).right ∧ -1000 ≤ i ∧ i ≤ 10000000000 then some ((cfgOf a0 a1 a2 a3).slotAt i) else none
theorem layout_Config_Slot.calls (a0 a1 a2 a3 i : Int) (r : Int) (w : World) (h : layout_Config_Slot.f a0 a1 a2 a3 i = some r) :
  Calls Tryz.prog 78 #[.agg #[.int .i64 a0, .int .i64 a1, .int .i64 a2, .int .u32 a3], .int .i64 i] w fun e w' => e = .returned (.int .i64 r) ∧ Below w.heap.size w w' := by
 unfold layout_Config_Slot.f at h
 split at h
 ·rename_i hr
  injection h with h
  subst h
  exact layout_Slot _ w hr.1 i hr.2
 ·cases h
end Go.Proofs.YtgdoeoackhfikaaGreatDoor.G

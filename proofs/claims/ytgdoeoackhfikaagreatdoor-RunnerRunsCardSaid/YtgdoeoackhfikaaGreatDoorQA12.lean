/-
  Parts of the proof of runnerSkips_holds: Repeat, StacksA, BookA, BookB, BookC, RunnerA, RunAt, RunNew, RunFit.
-/
import Derived.Test.YtgdoeoackhfikaaGreatDoorQA9
import Derived.Test.YtgdoeoackhfikaaGreatDoorQA7
import Derived.Laws.CopyRow
import Derived.LoopTactic
import Derived.Test.YtgdoeoackhfikaaGreatDoorQA2
namespace Go.Proofs.YtgdoeoackhfikaaGreatDoor
open Go.RowKit Go.Proofs.YtgdoeoackhfikaaGreatDoorW.PrintWords
set_option maxRecDepth 100000
set_option maxHeartbeats 4000000
set_option linter.unusedSimpArgs false
set_option linter.unusedVariables false
attribute [local go_sem] hs_other hs_alloc hs_falloc
attribute [local go_sem ↓] Go.wp_at_zero Go.wp_at_succ
theorem run_copy_rowN {P : Program} (w : World) (dT sT ty elem : TypeId) (g o dLen dCap sz k : Nat) (a : Addr) (sLen sCap : Nat) (cur : Array Value) (t : TypeId) (cs : List Value)
  (hu : P.underlying dT = some (.slice elem)) (hs : (P.info? elem).map (·.size) = some sz)
  (hg : w.heap[g]? = some (.cells cur t (0, 0))) (hk : k = Nat.min sLen dLen) (hn : cs.length = k * sz)
  (hsrc : ∀ j v, cs[j]? = some v → w.cell? (a.add j) = some v) (hfit : o + cs.length ≤ cur.size) (h1 : ∀ v ∈ cs, v.oneCell' = true) :
  (Builtin.copy_ #[dT, sT] ty #[.slice (some ⟨g, o, none⟩) dLen dCap, .slice (some a) sLen sCap]).run P w =
   .ok (goInt k) (w.setRow g (cur.toList.take o ++ cs ++ cur.toList.drop (o + cs.length)).toArray) := by
 have hl := run_loadCells_list (P := P) w a cs hsrc
 have hst := run_storeCells_at P g o t cs 0 cur w hg (by simpa using hfit) h1
 cases hq : P.info? elem with
 | none => simp [hq] at hs
 | some i =>
  have hi : i.size = sz := by simpa [hq] using hs
  subst hi
  simp [Builtin.copy_, run_underlying hu, Builtin.lenOf, Builtin.firstCells, sizeOf, typeInfo, hq, ← hk, ← hn, hl, hst]
def repL {α : Type} (n : Nat) (l : List α) : List α := (List.replicate n l).flatten
theorem repL_length {α : Type} (n : Nat) (l : List α) : (repL n l).length = n * l.length := by simp [repL]
theorem repL_add {α : Type} (n m : Nat) (l : List α) : repL (n + m) l = repL n l ++ repL m l := by
 unfold repL
 rw [← List.flatten_append, List.replicate_append_replicate]
theorem info_thread : (Tryz.prog.info? 85).map (fun i => (i.zero, i.size, i.bytes)) = some (some (.agg #[.slice none 0 0, .int .i64 0, .int .i64 0]), 3, 40) := by kernel_rfl
def repRow (n k : Nat) (l z : List Value) : List Value := repL k l ++ repL (n - k) z
theorem repRow_step (n k m : Nat) (l z : List Value) (hl : l.length = 3) (hz : z.length = 3) (hk : k + m ≤ n) :
  (repRow n k l z).take (k * 3) ++ repL m l ++ (repRow n k l z).drop (k * 3 + (repL m l).length) = repRow n (k + m) l z := by
 have e1 : (repRow n k l z).take (k * 3) = repL k l := by
  unfold repRow
  rw [List.take_append_of_le_length (by rw [repL_length, hl]; omega), List.take_of_length_le (by rw [repL_length, hl]; omega)]
 have e2 : repL (n - k) z = repL m z ++ repL (n - (k + m)) z := by rw [← repL_add]; congr 1; omega
 have e3 : (repRow n k l z).drop (k * 3 + (repL m l).length) = repL (n - (k + m)) z := by
  unfold repRow
  rw [e2, ← List.append_assoc, List.drop_append_of_le_length (by simp [repL_length, hl, hz]), List.drop_of_length_le (by simp [repL_length, hl, hz]), List.nil_append]
 rw [e1, e3]
 unfold repRow
 rw [repL_add]
def zeroThread : Array Value := #[.slice none 0 0, .int .i64 0, .int .i64 0]
theorem made_rep (n : Nat) (hn : 1 ≤ n ∧ n ≤ 8) : madeCells zeroThread (n * 3) = (repL n zeroThread.toList).toArray := by
 match n, hn with
 | 1, _ => (show madeCells zeroThread (1 * 3) = (repL 1 zeroThread.toList).toArray; kernel_rfl)
 | 2, _ => (show madeCells zeroThread (2 * 3) = (repL 2 zeroThread.toList).toArray; kernel_rfl)
 | 3, _ => (show madeCells zeroThread (3 * 3) = (repL 3 zeroThread.toList).toArray; kernel_rfl)
 | 4, _ => (show madeCells zeroThread (4 * 3) = (repL 4 zeroThread.toList).toArray; kernel_rfl)
 | 5, _ => (show madeCells zeroThread (5 * 3) = (repL 5 zeroThread.toList).toArray; kernel_rfl)
 | 6, _ => (show madeCells zeroThread (6 * 3) = (repL 6 zeroThread.toList).toArray; kernel_rfl)
 | 7, _ => (show madeCells zeroThread (7 * 3) = (repL 7 zeroThread.toList).toArray; kernel_rfl)
 | 8, _ => (show madeCells zeroThread (8 * 3) = (repL 8 zeroThread.toList).toArray; kernel_rfl)
theorem repeat_thread (w : World) (l : List Value) (hl : l.length = 3) (hl1 : ∀ v ∈ l, v.oneCell' = true) (g : Nat) (hsrc : ∀ j u, l[j]? = some u → w.cell? ⟨g, j, none⟩ = some u) (n : Nat) (hn : 1 ≤ n ∧ n ≤ 8) :
  Calls Tryz.prog 81 #[.slice (some ⟨g, 0, none⟩) 1 1, .int .i64 n] w fun e w' => ∃ h : Nat, e = .returned (.slice (some ⟨h, 0, none⟩) n n) ∧ w.heap.size ≤ h ∧ w'.heap[h]? = some (.cells (repL n l).toArray 85 (0, 0)) ∧ Kp (fun _ => False) w w' := by
 obtain ⟨i0, hi, hz0, hz1, hz2⟩ := info_parts info_thread
 have hinf : (Tryz.prog.info? 85).map (·.size) = some 3 := by rw [hi]; simp [hz1]
 have hmk : ∀ W, (Instr.makeSlice 150 (.int .i64 (n : Int)) (.int .i64 (n : Int))).run Tryz.prog W = .ok (.slice (some ⟨W.heap.size, 0, none⟩) n n) (W.alloc (.cells (repL n zeroThread.toList).toArray 85)) := fun W => by
  have hb : (i0.bytes : Int) * (n : Int) ≤ 40 * 8 := by rw [hz2]; omega
  have := run_make (P := Tryz.prog) W 150 _ i0 _ Tryz.underlying150 hi hz0 .i64 .i64 n n (by omega) (Int.le_refl _) (by omega) (by omega)
  rw [this, hz1]
  have e := made_rep n hn
  simp only [Int.toNat_natCast]
  show Result.ok _ (W.alloc (.cells (madeCells zeroThread (n * 3)) _)) = _
  rw [e]
 have hcopy : ∀ (W : World) (ad : Addr) (h k m dLen dCap sLen sCap : Nat), W.heap[h]? = some (.cells (repRow n k l zeroThread.toList).toArray 85 (0, 0)) → m = Nat.min sLen dLen → k + m ≤ n → (∀ j u, (repL m l)[j]? = some u → W.cell? (ad.add j) = some u) →
   (Builtin.copy_ #[150, 150] 3 #[.slice (some ⟨h, k * 3, none⟩) dLen dCap, .slice (some ad) sLen sCap]).run Tryz.prog W = .ok (goInt m) (W.setRow h (repRow n (k + m) l zeroThread.toList).toArray) := fun W ad h k m dLen dCap sLen sCap hh hm hkm hs => by
  have := run_copy_rowN (P := Tryz.prog) W 150 150 3 85 h (k * 3) dLen dCap 3 m ad sLen sCap _ _ (repL m l) Tryz.underlying150 hinf hh hm (by rw [repL_length, hl]) hs (by simp [repRow, repL_length, hl, zeroThread]; omega) (by
   intro v hv
   obtain ⟨y, hy, hvy⟩ := List.mem_flatten.1 hv
   obtain ⟨_, e⟩ := List.mem_replicate.1 hy
   rw [e] at hvy
   exact hl1 v hvy)
  rw [this]
  have e := repRow_step n k m l zeroThread.toList hl rfl hkm
  simp only [← e]
 have hfirst := hcopy (w.alloc (.cells (repL n zeroThread.toList).toArray 85)) ⟨g, 0, none⟩ w.heap.size 0 1 n n 1 1 (by rw [hp_new _ _ _ rfl]; simp [repRow, repL]) (by simp [Nat.min_def]; omega) (by omega) (fun j u hj => by
  rw [addr_add]
  exact kc _ (hsrc j u (by simpa [repL] using hj)))
 have hmul := Tryz.bits_Mul 1 n (by omega) (by omega)
 have hq : 1 * n / 18446744073709551616 = 0 := by omega
 have hm : 1 * n % 18446744073709551616 = n := by omega
 rw [hq, hm] at hmul
 have hw1 : IntKind.u64.wrap (n : Int) = n := by simp [IntKind.wrap, IntKind.bits, IntKind.signed]; omega
 have hw2 : IntKind.i64.wrap (n : Int) = n := by simp [IntKind.wrap, IntKind.bits, IntKind.signed]; omega
 have hd1 : decide ((n : Int) < 0) = false := decide_eq_false (by omega)
 have hd2 : decide (9223372036854775807 < (n : Int)) = false := decide_eq_false (by omega)
 have HI := Lib.hid hinf
 have HC := Lib.hid hcopy
 simp only [Nat.zero_mul, Nat.zero_add] at hfirst
 clear hi hz0 hz1 hz2 hq hm hinf hsrc hcopy
 go_enter Tryz.func81, Tryz.ntmps81
 go_wp2_with fail
 refine (hmul _).mono ?_
 rintro e w1 ⟨rfl, rfl⟩
 go_wp2_with fail
 refine wp_world ?_
 intro W0 hW0
 have hk0 : Kp (fun _ => False) w1 W0 := by
  rw [hW0]
  exact Kp.comp (S2 := fun k => k = w1.heap.size) ((Kp.refl _ _).alloc _) ⟨rfl, rfl, rfl, by simp [World.setRow], fun k _ hn => setRow_other _ _ _ _ hn⟩ (fun k hk e => by omega)
 have hr0 : W0.heap[w1.heap.size]? = some (.cells (repRow n 1 l zeroThread.toList).toArray 85 (0, 0)) := by
  rw [hW0]
  exact setRow_heap _ _ _ _ _ _ (hp_new _ _ _ rfl)
 clear hW0 hmul hmk hfirst
 go_loopw [8] (fun v wr => ∃ k : Nat, v = .int .i64 k ∧ 1 ≤ k ∧ k ≤ n ∧ wr.heap[w1.heap.size]? = some (.cells (repRow n k l zeroThread.toList).toArray 85 (0, 0)) ∧ Kp (fun _ => False) w1 wr) (fun v _ => n - (intOf v).toNat)
 case atStart => exact ⟨1, rfl, by omega, by omega, hr0, hk0⟩
 case round =>
  obtain ⟨k, rfl, hk1, hk2, hrk, hkk⟩ := hrel
  by_cases hlt : k < n
  ·have hd : decide ((k : Int) < (n : Int)) = true := decide_eq_true (by omega)
   obtain ⟨m, hm⟩ : ∃ m : Nat, m = Nat.min k (n - k) := ⟨_, rfl⟩
   have hm1 : 1 ≤ m ∧ k + m ≤ n ∧ m ≤ k := by rw [hm]; simp only [Nat.min_def]; split <;> omega
   have hstep := HC.out wr.drew ⟨w1.heap.size, 0, none⟩ w1.heap.size k m (n - k) (n - k) k n hrk hm hm1.2.1 (fun j u hj => by
    rw [addr_add]
    show wr.cell? _ = _
    have hj3 : j < m * 3 := by have := (List.getElem?_eq_some_iff.1 hj).1; rw [repL_length, hl] at this; exact this
    rw [Lib.cell_of_heap hrk]
    have e : repRow n k l zeroThread.toList = repL m l ++ (repL (k - m) l ++ repL (n - k) zeroThread.toList) := by
     unfold repRow
     rw [← List.append_assoc, ← repL_add, show m + (k - m) = k from by omega]
    rw [e]
    simpa [List.getElem?_append_left (show j < (repL m l).length by rw [repL_length, hl]; exact hj3)] using hj)
   have hgo : (goInt m : Value) = .int .i64 m := rfl
   rw [hgo] at hstep
   clear hm
   have hwr : IntKind.i64.wrap ((k : Int) + (m : Int)) = ((k + m : Nat) : Int) := by
    simp [IntKind.wrap, IntKind.bits, IntKind.signed]; omega
   have hkX : Kp (fun _ => False) w1 (wr.drew.setRow w1.heap.size (repRow n (k + m) l zeroThread.toList).toArray) :=
    hkk.drew.comp (S2 := fun k => k = w1.heap.size) ⟨rfl, rfl, rfl, by simp [World.setRow], fun k _ hn => setRow_other _ _ _ _ hn⟩ (fun k hk e => by omega)
   have hrX := setRow_heap wr.drew w1.heap.size _ (repRow n (k + m) l zeroThread.toList).toArray _ _ hrk
   have HRX := Lib.hid hrX
   clear hrX
   go_wp2_with fail
   go_region_held3 (fun w' => True) (exact trivial) (fail)
   go_wp2
   refine ⟨⟨k + m, by simp, by omega, by omega, HRX.out, hkX⟩, by simp [intOf]; omega⟩
  ·have hd : decide ((k : Int) < (n : Int)) = false := decide_eq_false (by omega)
   have hkn : k = n := by omega
   subst hkn
   go_wp2_with fail
   go_ret
   have e : repRow k k l zeroThread.toList = repL k l := by unfold repRow; rw [Nat.sub_self]; simp [repL]
   rw [e] at hrk
   exact ⟨_, rfl, Nat.le_refl _, hrk, hkk⟩
end Go.Proofs.YtgdoeoackhfikaaGreatDoor

namespace Go.Proofs.YtgdoeoackhfikaaGreatDoor
set_option linter.unusedVariables false
set_option linter.unusedSimpArgs false
open Go.RowKit
set_option maxRecDepth 100000
set_option maxHeartbeats 2000000
def StacksC (w : World) (b : Nat) (c : List Value) (th : Value) (g n : Nat) : Prop := c.length = 7 ∧ w.heap[b]? = some (.cells (c ++ [th, .slice (some ⟨g, 0, none⟩) n n]).toArray 153 (0, 0))
theorem StacksC.ops {w : World} {b : Nat} {c : List Value} {th : Value} {g n : Nat} (h : StacksC w b c th g n) : w.cell? ⟨b, 8, none⟩ = some (.slice (some ⟨g, 0, none⟩) n n) := by
 rw [Lib.cell_of_heap h.2]
 simp [h.1]
theorem StacksC.threads {w : World} {b : Nat} {c : List Value} {th : Value} {g n : Nat} (h : StacksC w b c th g n) : w.cell? ⟨b, 7, none⟩ = some th := by
 rw [Lib.cell_of_heap h.2]
 simp [h.1]
theorem stacks_there (w : World) (b : Nat) (c : List Value) (A : Option Addr) (k cc g n : Nat) (t : Int) (hb : StacksC w b c (.slice A k cc) g n) :
  Calls Tryz.prog 56 #[.pointer (some ⟨b, 0, none⟩), .int .i64 t] w fun e w' => e = .returned (.bool (decide (0 ≤ t ∧ t < k))) ∧ w' = w := by
 have c7 := hb.threads
 by_cases h0 : t ≥ 0
 ·go_enter Tryz.func56, Tryz.ntmps56
  go_wp2
  all_goals go_ret
  all_goals refine ⟨?_, rfl⟩
  all_goals congr 2
  all_goals simp
  all_goals omega
 ·go_enter Tryz.func56, Tryz.ntmps56
  go_wp2
  all_goals go_ret
  all_goals refine ⟨?_, rfl⟩
  all_goals congr 2
  all_goals simp
  all_goals omega
theorem stacks_Op (w : World) (b : Nat) (c : List Value) (A : Option Addr) (k cc g n : Nat) (t : Nat) (o : Option Addr) (hb : StacksC w b c (.slice A k cc) g n) (ht : t < k) (hk : k = n) (ho : w.cell? ⟨g, t, none⟩ = some (.pointer o)) :
  Calls Tryz.prog 28 #[.pointer (some ⟨b, 0, none⟩), .int .i64 t] w fun e w' => e = .returned (.pointer o) ∧ w' = w := by
 have c8 := hb.ops
 have hd : decide (0 ≤ (t : Int) ∧ (t : Int) < (k : Int)) = true := decide_eq_true (by omega)
 have ht' : (t : Int) < (n : Int) := by omega
 go_enter Tryz.func28, Tryz.ntmps28
 go_wp2_with fail
 refine (stacks_there w b c A k cc g n t hb).mono ?_
 rintro e w' ⟨rfl, rfl⟩
 rw [hd]
 go_wp2
 go_ret
 exact ⟨rfl, rfl⟩
end Go.Proofs.YtgdoeoackhfikaaGreatDoor

namespace Go.Proofs.YtgdoeoackhfikaaGreatDoor
open Go.RowKit Go.Proofs.YtgdoeoackhfikaaGreatDoorW.PrintWords
set_option maxRecDepth 100000
set_option maxHeartbeats 4000000
set_option linter.unusedSimpArgs false
set_option linter.unusedVariables false
attribute [local go_sem] hs_other hs_alloc hs_falloc
attribute [local go_sem ↓] Go.wp_at_zero Go.wp_at_succ
theorem ebstack_Fresh (c : ECfg) (w : World) :
  Calls Tryz.prog 39 #[c.v] w fun e w' => e = .returned (.agg #[.slice none 0 0, .int .i64 (Pol.new c.l.slots).range, .int .i64 (Pol.new c.l.slots).exp]) ∧ Below w.heap.size w w' := by
 have hpn := fun w => policy_New c.l.slots w
 unfold Pol.v at hpn
 unfold ECfg.v
 go_enter Tryz.func39, Tryz.ntmps39
 go_wp2_with fail
 refine (hpn _).mono ?_
 rintro e w1 ⟨rfl, hb⟩
 have hk1 : Kp (fun _ => False) w w1 := Kp.also (((Kp.refl _ w).alloc _).alloc _) (Kp.nb hb)
 have hO1 : w1.heap[w.heap.size + 1]? = some (.cells #[.slice none 0 0, .int .i64 0, .int .i64 0] 85 (0, 0)) := obj_below hb (hp_new _ _ _ (by simp))
 obtain ⟨q, fq, lq⟩ := obj_cells hO1
 have c0 : w1.cell? ⟨w.heap.size + 1, 0, none⟩ = some (.slice none 0 0) := q 0
 have c1 : w1.cell? ⟨w.heap.size + 1, 1, none⟩ = some (.int .i64 0) := q 1
 have c2 : w1.cell? ⟨w.heap.size + 1, 2, none⟩ = some (.int .i64 0) := q 2
 have f0 : w1.frozen? ⟨w.heap.size + 1, 0, none⟩ = false := fq 0
 have f1 : w1.frozen? ⟨w.heap.size + 1, 1, none⟩ = false := fq 1
 have f2 : w1.frozen? ⟨w.heap.size + 1, 2, none⟩ = false := fq 2
 have HO := Lib.hid hO1
 clear q fq hb hO1
 go_wp2_with fail
 refine any_world (p := fun W => bodyPost _ _ _ _ _ W) ?_
 intro W hW
 have hX : W.heap[w.heap.size + 1]? = some (.cells #[.slice none 0 0, .int .i64 (Pol.new c.l.slots).range, .int .i64 (Pol.new c.l.slots).exp] 85 (0, 0)) := by
  rw [hW]
  exact hp_same _ _ 2 _ (hp_same _ _ 1 _ (hp_same _ _ 0 _ HO.out))
 have hKW : Kp (fun _ => False) w W := by
  rw [hW]
  exact Kp.new (Kp.new (Kp.new hk1 (by omega) 0 _) (by omega) 1 _) (by omega) 2 _
 obtain ⟨q2, _, _⟩ := obj_cells hX
 clear hW c0 c1 c2 f0 f1 f2
 exact bodyPost_ret (v := .agg #[.slice none 0 0, .int .i64 (Pol.new c.l.slots).range, .int .i64 (Pol.new c.l.slots).exp]) (by simp [results, Tryz.results39, go_sem, q2]) rfl ⟨rfl, hKW.blw⟩
theorem info_pOp : (Tryz.prog.info? 65).map (fun i => (i.zero, i.size, i.bytes)) = some (some (.pointer none), 1, 8) := by kernel_rfl
def ECfg.cs (c : ECfg) : List Value := [.int .i64 c.l.nodes, .int .i64 c.l.slots, .int .i64 c.l.holders, .int .u32 c.l.tag, .int .i64 c.budget, .int .i64 c.base, .int .u64 c.wait]
def thV (sv : Value) (p : Pol) : List Value := [sv, .int .i64 p.range, .int .i64 p.exp]
def BookNew (w : World) (c : ECfg) (n : Nat) (b : Nat) (w' : World) : Prop :=
 ∃ hg og : Nat, StacksC w' b c.cs (.slice (some ⟨hg, 0, none⟩) n n) og n ∧ w'.heap[hg]? = some (.cells (repL n (thV (.slice none 0 0) (Pol.new c.l.slots))).toArray 85 (0, 0)) ∧ w'.heap[og]? = some (.cells (Array.replicate n (.pointer none)) 65 (0, 0))
  ∧ w.heap.size ≤ b ∧ w.heap.size ≤ hg ∧ w.heap.size ≤ og ∧ Kp (fun _ => False) w w'
theorem stacks_New (w : World) (c : ECfg) (hc : c.right) (n : Nat) (hn : 1 ≤ n ∧ n ≤ 8) :
  Calls Tryz.prog 41 #[c.v, .int .i64 n] w fun e w' => ∃ b : Nat, e = .returned (.tuple #[.pointer (some ⟨b, 0, none⟩), .int .i64 0]) ∧ BookNew w c n b w' := by
 have hck := fun W => ebstack_Check c W
 have hfr := fun W => ebstack_Fresh c W
 rw [if_pos hc] at hck
 have hrep := fun W g hs => repeat_thread W (thV (.slice none 0 0) (Pol.new c.l.slots)) rfl (by simp [thV, Value.oneCell']) g hs n hn
 obtain ⟨i0, hi, hz0, hz1, hz2⟩ := info_parts info_pOp
 have hmk : ∀ W, (Instr.makeSlice 151 (.int .i64 (n : Int)) (.int .i64 (n : Int))).run Tryz.prog W = .ok (.slice (some ⟨W.heap.size, 0, none⟩) n n) (W.alloc (.cells (Array.replicate n (.pointer none)) 65)) :=
  fun W => by
   have := run_made (P := Tryz.prog) 151 65 i0 _ Tryz.underlying151 hi hz0 hz1 rfl n (by omega) (by omega) W
   simpa using this
 have hd1 : decide ((n : Int) < 1) = false := decide_eq_false (by omega)
 have hd2 : decide (8 < (n : Int)) = false := decide_eq_false (by omega)
 generalize hP : Pol.new c.l.slots = p at *
 unfold ECfg.v at hck hfr ⊢
 clear hi hz0 hz1 hz2
 have HRE := Lib.hid hrep
 clear hrep
 go_enter Tryz.func41, Tryz.ntmps41
 go_wp2_with fail
 refine (hck _).mono ?_
 rintro e w1 ⟨rfl, hb1⟩
 have hk1 : Kp (fun _ => False) w w1 := (Kp.nb (w := w) (by go_grown)).also (Kp.nb hb1)
 have hO0 : w1.heap[w.heap.size]? = some (.cells #[.int .i64 c.l.nodes, .int .i64 c.l.slots, .int .i64 c.l.holders, .int .u32 c.l.tag, .int .i64 c.budget, .int .i64 c.base, .int .u64 c.wait] 35 (0, 0)) := obj_below hb1 (hp_new _ _ _ rfl)
 obtain ⟨q, _, lq⟩ := obj_cells hO0
 have a0 : w1.cell? ⟨w.heap.size, 0, none⟩ = some (.int .i64 c.l.nodes) := q 0
 have a1 : w1.cell? ⟨w.heap.size, 1, none⟩ = some (.int .i64 c.l.slots) := q 1
 have a2 : w1.cell? ⟨w.heap.size, 2, none⟩ = some (.int .i64 c.l.holders) := q 2
 have a3 : w1.cell? ⟨w.heap.size, 3, none⟩ = some (.int .u32 c.l.tag) := q 3
 have a4 : w1.cell? ⟨w.heap.size, 4, none⟩ = some (.int .i64 c.budget) := q 4
 have a5 : w1.cell? ⟨w.heap.size, 5, none⟩ = some (.int .i64 c.base) := q 5
 have a6 : w1.cell? ⟨w.heap.size, 6, none⟩ = some (.int .u64 c.wait) := q 6
 clear hb1 q hO0 hck
 go_wp2_with fail
 have hall : ∀ w' : World, Kp (fun _ => False) w1 w' → (w'.cell? ⟨w.heap.size, 0, none⟩ = some (.int .i64 c.l.nodes) ∧ w'.cell? ⟨w.heap.size, 1, none⟩ = some (.int .i64 c.l.slots) ∧ w'.cell? ⟨w.heap.size, 2, none⟩ = some (.int .i64 c.l.holders) ∧ w'.cell? ⟨w.heap.size, 3, none⟩ = some (.int .u32 c.l.tag) ∧ w'.cell? ⟨w.heap.size, 4, none⟩ = some (.int .i64 c.budget) ∧ w'.cell? ⟨w.heap.size, 5, none⟩ = some (.int .i64 c.base) ∧ w'.cell? ⟨w.heap.size, 6, none⟩ = some (.int .u64 c.wait)) := fun w' hk => ⟨hk.cell a0 (fun e => e), hk.cell a1 (fun e => e), hk.cell a2 (fun e => e), hk.cell a3 (fun e => e), hk.cell a4 (fun e => e), hk.cell a5 (fun e => e), hk.cell a6 (fun e => e)⟩
 have hsrc : ∀ (W : World) (g : Nat), g = W.heap.size → ∀ j u, (thV (.slice none 0 0) p)[j]? = some u → (W.alloc (.cells #[.slice none 0 0, .int .i64 p.range, .int .i64 p.exp] 85)).cell? ⟨g, j, none⟩ = some u := fun W g hg j u hj => by
  rw [Lib.cell_of_heap (hp_new _ _ _ hg)]
  simpa [thV] using hj
 have HA := Lib.hid hall
 have HSR := Lib.hid hsrc
 clear hall hsrc
 go_region_held3 (fun w' => w'.cell? ⟨w.heap.size, 0, none⟩ = some (.int .i64 c.l.nodes) ∧ w'.cell? ⟨w.heap.size, 1, none⟩ = some (.int .i64 c.l.slots) ∧ w'.cell? ⟨w.heap.size, 2, none⟩ = some (.int .i64 c.l.holders) ∧ w'.cell? ⟨w.heap.size, 3, none⟩ = some (.int .u32 c.l.tag) ∧ w'.cell? ⟨w.heap.size, 4, none⟩ = some (.int .i64 c.budget) ∧ w'.cell? ⟨w.heap.size, 5, none⟩ = some (.int .i64 c.base) ∧ w'.cell? ⟨w.heap.size, 6, none⟩ = some (.int .u64 c.wait))
  (first | exact HA.out _ (by first | exact (Kp.refl (fun _ => False) w1) | exact (Kp.refl (fun _ => False) w1).drew | exact (Kp.refl (fun _ => False) w1).alloc _ | exact ((Kp.refl (fun _ => False) w1).alloc _).drew | exact ((Kp.refl (fun _ => False) w1).alloc _).alloc _ | exact (((Kp.refl (fun _ => False) w1).alloc _).alloc _).drew) | exact HA.out _ (by first | exact hk2 | exact hk2.drew | exact hk2.alloc _ | exact (hk2.alloc _).drew | exact (hk2.alloc _).alloc _ | exact ((hk2.alloc _).alloc _).drew) | exact HA.out _ (by first | exact hk3' | exact hk3'.drew | exact hk3'.alloc _ | exact (hk3'.alloc _).drew | exact (hk3'.alloc _).alloc _ | exact ((hk3'.alloc _).alloc _).drew))
  ((first
   | (go_at_call 39; refine (hfr _).mono ?_; rintro e w2 ⟨rfl, hb2⟩; have hk2 : Kp (fun _ => False) w1 w2 := Kp.also (by first | exact (Kp.refl (fun _ => False) w1) | exact (Kp.refl (fun _ => False) w1).drew | exact (Kp.refl (fun _ => False) w1).alloc _ | exact ((Kp.refl (fun _ => False) w1).alloc _).drew | exact ((Kp.refl (fun _ => False) w1).alloc _).alloc _ | exact (((Kp.refl (fun _ => False) w1).alloc _).alloc _).drew) (Kp.nb hb2))
   | (go_at_call 81; refine (HRE.out _ _ (fun j u hj => by first | exact HSR.out _ _ (by simp) j u hj | exact kc _ (HSR.out _ _ (by simp) j u hj))).mono ?_; rintro e w3 ⟨h, rfl, hh1, hh2, hk3⟩; have hk3' : Kp (fun _ => False) w1 w3 := Kp.also (by first | exact hk2 | exact hk2.drew | exact hk2.alloc _ | exact (hk2.alloc _).drew | exact (hk2.alloc _).alloc _ | exact ((hk2.alloc _).alloc _).drew) hk3)))
 ·go_wp2
  go_ret2
  have s1 := hk1.size
  have s2 := hk2.size
  have s3 := hk3'.size
  have hh : w2.heap.size ≤ h := by
   have := hh1
   simp at this
   omega
  have hlh := lt_of_heap hh2
  have hkA : Kp (fun _ => False) w3 ((w3.alloc (.cells (Array.replicate n (.pointer none)) 65)).alloc (.cells #[.int .i64 c.l.nodes, .int .i64 c.l.slots, .int .i64 c.l.holders, .int .u32 c.l.tag, .int .i64 c.budget, .int .i64 c.base, .int .u64 c.wait, .slice (some ⟨h, 0, none⟩) n n, .slice (some ⟨w3.heap.size, 0, none⟩) n n] 153)) := ((Kp.refl _ _).alloc _).alloc _
  exact ⟨w3.heap.size + 1, rfl, h, w3.heap.size, ⟨rfl, hp_new _ _ _ (by simp)⟩, by rw [hP]; exact hkA.heap hh2 (fun e => e), (hp_alloc _ _ _ (by simp)).trans (hp_new _ _ _ rfl), by omega, by omega, by omega, (hk1.also hk3').also hkA⟩
 ·go_wp2
  go_ret2
  have s1 := hk1.size
  have s2 := hk2.size
  have s3 := hk3'.size
  have hh : w2.heap.size ≤ h := by
   have := hh1
   simp at this
   omega
  have hlh := lt_of_heap hh2
  have hkA : Kp (fun _ => False) w3 (w3.alloc (.cells #[.int .i64 c.l.nodes, .int .i64 c.l.slots, .int .i64 c.l.holders, .int .u32 c.l.tag, .int .i64 c.budget, .int .i64 c.base, .int .u64 c.wait, .slice (some ⟨h, 0, none⟩) n n, .slice (some ⟨w2.heap.size + 1, 0, none⟩) n n] 153)) := (Kp.refl _ _).alloc _
  exact ⟨w3.heap.size, rfl, h, w2.heap.size + 1, ⟨rfl, hp_new _ _ _ rfl⟩, by rw [hP]; exact hkA.heap hh2 (fun e => e), hkA.heap (hk3.heap (hp_new _ _ _ (by simp)) (fun e => e)) (fun e => e), by omega, by omega, by omega, (hk1.also hk3').also hkA⟩
 ·go_wp2
  go_ret2
  have s1 := hk1.size
  have s2 := hk2.size
  have s3 := hk3'.size
  have hh : w2.heap.size ≤ h := by
   have := hh1
   simp at this
   omega
  have hlh := lt_of_heap hh2
  have hkA : Kp (fun _ => False) w3 (w3.alloc (.cells #[.int .i64 c.l.nodes, .int .i64 c.l.slots, .int .i64 c.l.holders, .int .u32 c.l.tag, .int .i64 c.budget, .int .i64 c.base, .int .u64 c.wait, .slice (some ⟨h, 0, none⟩) n n, .slice (some ⟨w2.heap.size, 0, none⟩) n n] 153)) := (Kp.refl _ _).alloc _
  exact ⟨w3.heap.size, rfl, h, w2.heap.size, ⟨rfl, hp_new _ _ _ rfl⟩, by rw [hP]; exact hkA.heap hh2 (fun e => e), hkA.heap (hk3.heap ((hp_alloc _ _ _ (by simp)).trans (hp_new _ _ _ rfl)) (fun e => e)) (fun e => e), by omega, by omega, by omega, (hk1.also hk3').also hkA⟩
 ·go_wp2
  go_ret2
  have s1 := hk1.size
  have s2 := hk2.size
  have s3 := hk3'.size
  have hh : w2.heap.size ≤ h := by
   have := hh1
   simp at this
   omega
  have hlh := lt_of_heap hh2
  have hkA : Kp (fun _ => False) w3 (w3.alloc (.cells #[.int .i64 c.l.nodes, .int .i64 c.l.slots, .int .i64 c.l.holders, .int .u32 c.l.tag, .int .i64 c.budget, .int .i64 c.base, .int .u64 c.wait, .slice (some ⟨h, 0, none⟩) n n, .slice (some ⟨w1.heap.size, 0, none⟩) n n] 153)) := (Kp.refl _ _).alloc _
  exact ⟨w3.heap.size, rfl, h, w1.heap.size, ⟨rfl, hp_new _ _ _ rfl⟩, by rw [hP]; exact hkA.heap hh2 (fun e => e), hkA.heap ((show Kp (fun _ => False) w2 w3 from Kp.also (by first | exact (Kp.refl _ _).alloc _ | exact ((Kp.refl _ _).alloc _).drew) hk3).heap ((Kp.nb hb2).heap (hp_new _ _ _ rfl) (fun e => e)) (fun e => e)) (fun e => e), by omega, by omega, by omega, (hk1.also hk3').also hkA⟩
end Go.Proofs.YtgdoeoackhfikaaGreatDoor

namespace Go.Proofs.YtgdoeoackhfikaaGreatDoor
open Go.RowKit Go.Proofs.YtgdoeoackhfikaaGreatDoorW.PrintWords
set_option maxRecDepth 100000
set_option maxHeartbeats 4000000
set_option linter.unusedSimpArgs false
set_option linter.unusedVariables false
attribute [local go_sem] hs_other hs_alloc hs_falloc
attribute [local go_sem ↓] Go.wp_at_zero Go.wp_at_succ
def AskPost (w : World) (og t : Nat) (x : OpS) (e : Ending) (w' : World) : Prop :=
 ∃ (o : Nat) (W : World), e = .returned (.iface 65 (.pointer (some ⟨o, 0, none⟩))) ∧ w.heap.size ≤ o ∧ Kp (fun _ => False) w W ∧ OpAt W (fun k => w.heap.size ≤ k ∧ k < W.heap.size) o x ∧ w' = W.setCell ⟨og, t, none⟩ (.pointer (some ⟨o, 0, none⟩))
theorem stacks_Ask_pop (w : World) (b : Nat) (c : ECfg) (hc : c.right) (hw : 0 ≤ c.wait ∧ c.wait < 18446744073709551616) (hg og n t : Nat) (hb : StacksC w b c.cs (.slice (some ⟨hg, 0, none⟩) n n) og n) (ht : t < n) (F : Nat → Prop) (sv : Value) (xs : List Int) (hs : ShelfAt w F sv xs) (hl : xs.length ≤ 1000000) (pol : Pol) (hp : pol.right c.l.slots)
  (t0 : w.cell? ⟨hg, t * 3, none⟩ = some sv) (t1 : w.cell? ⟨hg, t * 3 + 1, none⟩ = some (.int .i64 pol.range)) (t2 : w.cell? ⟨hg, t * 3 + 2, none⟩ = some (.int .i64 pol.exp)) (u0 : w.cell? ⟨og, t, none⟩ = some (.pointer none)) (uf : w.frozen? ⟨og, t, none⟩ = false) (ne1 : b ≠ og) (ne2 : hg ≠ og) (v : Int) :
  Calls Tryz.prog 205 #[.pointer (some ⟨b, 0, none⟩), .int .i64 t, .bool false, .int .u64 v] w (AskPost w og t (newPop c xs pol)) := by
 have hth := stacks_there w b c.cs (some ⟨hg, 0, none⟩) n n og n t hb
 have hd : decide (0 ≤ (t : Int) ∧ (t : Int) < (n : Int)) = true := decide_eq_true (by omega)
 rw [hd] at hth
 have hnp := fun W (hk : Kp (fun _ => False) w W) => ebstack_NewPop W c hc hw F sv xs (hs.kept (fun k o _ ho => hk.heap ho (fun e => e)) (fun _ h => h)) hl pol hp
 obtain ⟨A, cc, rfl⟩ := row_slice hs.row
 have c7 := hb.threads
 have c8 := hb.ops
 obtain ⟨q, _, lq⟩ := obj_cells hb.2
 have ht' : (t : Int) < (n : Int) := by omega
 have a0 : w.cell? ⟨b, 0, none⟩ = some (.int .i64 c.l.nodes) := q 0
 have a1 : w.cell? ⟨b, 1, none⟩ = some (.int .i64 c.l.slots) := q 1
 have a2 : w.cell? ⟨b, 2, none⟩ = some (.int .i64 c.l.holders) := q 2
 have a3 : w.cell? ⟨b, 3, none⟩ = some (.int .u32 c.l.tag) := q 3
 have a4 : w.cell? ⟨b, 4, none⟩ = some (.int .i64 c.budget) := q 4
 have a5 : w.cell? ⟨b, 5, none⟩ = some (.int .i64 c.base) := q 5
 have a6 : w.cell? ⟨b, 6, none⟩ = some (.int .u64 c.wait) := q 6
 unfold ECfg.v at hnp
 have HNP := Lib.hid hnp
 clear q hb hs hnp
 go_enter Tryz.func205, Tryz.ntmps205
 go_wp2_with fail
 refine hth.mono ?_
 rintro e w1 ⟨rfl, hw1⟩
 obtain rfl : w = w1 := hw1.symm
 go_wp2_with fail
 have hall : ∀ w' : World, Kp (fun k => k = og) w w' → (w'.cell? ⟨b, 0, none⟩ = some (.int .i64 c.l.nodes) ∧ w'.cell? ⟨b, 1, none⟩ = some (.int .i64 c.l.slots) ∧ w'.cell? ⟨b, 2, none⟩ = some (.int .i64 c.l.holders) ∧ w'.cell? ⟨b, 3, none⟩ = some (.int .u32 c.l.tag) ∧ w'.cell? ⟨b, 4, none⟩ = some (.int .i64 c.budget) ∧ w'.cell? ⟨b, 5, none⟩ = some (.int .i64 c.base) ∧ w'.cell? ⟨b, 6, none⟩ = some (.int .u64 c.wait) ∧ w'.cell? ⟨b, 7, none⟩ = some (.slice (some ⟨hg, 0, none⟩) n n) ∧ w'.cell? ⟨b, 8, none⟩ = some (.slice (some ⟨og, 0, none⟩) n n) ∧ w'.cell? ⟨hg, t * 3, none⟩ = some (.slice A xs.length cc) ∧ w'.cell? ⟨hg, t * 3 + 1, none⟩ = some (.int .i64 pol.range) ∧ w'.cell? ⟨hg, t * 3 + 2, none⟩ = some (.int .i64 pol.exp)) := fun w' hk => ⟨hk.cell a0 ne1, hk.cell a1 ne1, hk.cell a2 ne1, hk.cell a3 ne1, hk.cell a4 ne1, hk.cell a5 ne1, hk.cell a6 ne1, hk.cell c7 ne1, hk.cell c8 ne1, hk.cell t0 ne2, hk.cell t1 ne2, hk.cell t2 ne2⟩
 have HA := Lib.hid hall
 have hlo : og < w.heap.size := World.block_lt_of_cell? w _ u0
 clear hall
 go_region_held3 (fun w' => w'.cell? ⟨b, 0, none⟩ = some (.int .i64 c.l.nodes) ∧ w'.cell? ⟨b, 1, none⟩ = some (.int .i64 c.l.slots) ∧ w'.cell? ⟨b, 2, none⟩ = some (.int .i64 c.l.holders) ∧ w'.cell? ⟨b, 3, none⟩ = some (.int .u32 c.l.tag) ∧ w'.cell? ⟨b, 4, none⟩ = some (.int .i64 c.budget) ∧ w'.cell? ⟨b, 5, none⟩ = some (.int .i64 c.base) ∧ w'.cell? ⟨b, 6, none⟩ = some (.int .u64 c.wait) ∧ w'.cell? ⟨b, 7, none⟩ = some (.slice (some ⟨hg, 0, none⟩) n n) ∧ w'.cell? ⟨b, 8, none⟩ = some (.slice (some ⟨og, 0, none⟩) n n) ∧ w'.cell? ⟨hg, t * 3, none⟩ = some (.slice A xs.length cc) ∧ w'.cell? ⟨hg, t * 3 + 1, none⟩ = some (.int .i64 pol.range) ∧ w'.cell? ⟨hg, t * 3 + 2, none⟩ = some (.int .i64 pol.exp))
  (first | exact HA.out _ (Kp.refl _ _) | exact HA.out _ (Kp.refl _ _).drew | exact HA.out _ hk2 | exact HA.out _ hk2.drew | exact HA.out _ (Kp.st hk2 (.inl rfl) t _) | exact HA.out _ (Kp.st hk2 (.inl rfl) t _).drew)
  ((go_at_call 208; refine (HNP.out w.drew (Kp.refl _ _).drew).mono ?_; rintro e w2 ⟨o, rfl, ho, hk1, hop⟩; have hk2 : Kp (fun k => k = og) w w2 := (Kp.undrew hk1).mono (fun _ e => e.elim); have v0 := (Kp.undrew hk1).cell u0 (fun e => e); have vf := (Kp.undrew hk1).froz hlo (fun e => e) uf))
 refine any_world (p := fun W => Exit.inBlock _ _ _ _ W) ?_
 intro W hW
 have w8 : W.cell? ⟨b, 8, none⟩ = some (.slice (some ⟨og, 0, none⟩) n n) := by rw [hW]; exact (hs_other _ _ _ _ (eq_false (fun e => ne1 (by injection e with e _; exact e.symm)))).trans ((Kp.undrew hk1).cell c8 (fun e => e))
 have wo : W.cell? ⟨og, t, none⟩ = some (.pointer (some ⟨o, 0, none⟩)) := by rw [hW]; exact World.cell?_setCell_same _ _ _ v0
 have HW := Lib.hid hW
 clear hW v0 vf u0 uf
 go_wp2
 go_ret
 exact ⟨o, w2, rfl, ho, Kp.undrew hk1, hop, HW.out⟩
theorem stacks_Ask_push (w : World) (b : Nat) (c : ECfg) (hc : c.right) (hw : 0 ≤ c.wait ∧ c.wait < 18446744073709551616) (hg og n t : Nat) (hb : StacksC w b c.cs (.slice (some ⟨hg, 0, none⟩) n n) og n) (ht : t < n) (F : Nat → Prop) (sv : Value) (xs : List Int) (hs : ShelfAt w F sv xs) (hl : xs.length ≤ 1000000) (pol : Pol) (hp : pol.right c.l.slots)
  (t0 : w.cell? ⟨hg, t * 3, none⟩ = some sv) (t1 : w.cell? ⟨hg, t * 3 + 1, none⟩ = some (.int .i64 pol.range)) (t2 : w.cell? ⟨hg, t * 3 + 2, none⟩ = some (.int .i64 pol.exp)) (u0 : w.cell? ⟨og, t, none⟩ = some (.pointer none)) (uf : w.frozen? ⟨og, t, none⟩ = false) (ne1 : b ≠ og) (ne2 : hg ≠ og) (v : Int) (hv : 0 ≤ v ∧ v < 18446744073709551616) :
  Calls Tryz.prog 205 #[.pointer (some ⟨b, 0, none⟩), .int .i64 t, .bool true, .int .u64 v] w (AskPost w og t (newPush c xs pol v)) := by
 have hth := stacks_there w b c.cs (some ⟨hg, 0, none⟩) n n og n t hb
 have hd : decide (0 ≤ (t : Int) ∧ (t : Int) < (n : Int)) = true := decide_eq_true (by omega)
 rw [hd] at hth
 have hnp := fun W (hk : Kp (fun _ => False) w W) => ebstack_NewPush W c hc hw F sv xs (hs.kept (fun k o _ ho => hk.heap ho (fun e => e)) (fun _ h => h)) hl pol hp v hv
 obtain ⟨A, cc, rfl⟩ := row_slice hs.row
 have c7 := hb.threads
 have c8 := hb.ops
 obtain ⟨q, _, lq⟩ := obj_cells hb.2
 have ht' : (t : Int) < (n : Int) := by omega
 have a0 : w.cell? ⟨b, 0, none⟩ = some (.int .i64 c.l.nodes) := q 0
 have a1 : w.cell? ⟨b, 1, none⟩ = some (.int .i64 c.l.slots) := q 1
 have a2 : w.cell? ⟨b, 2, none⟩ = some (.int .i64 c.l.holders) := q 2
 have a3 : w.cell? ⟨b, 3, none⟩ = some (.int .u32 c.l.tag) := q 3
 have a4 : w.cell? ⟨b, 4, none⟩ = some (.int .i64 c.budget) := q 4
 have a5 : w.cell? ⟨b, 5, none⟩ = some (.int .i64 c.base) := q 5
 have a6 : w.cell? ⟨b, 6, none⟩ = some (.int .u64 c.wait) := q 6
 unfold ECfg.v at hnp
 have HNP := Lib.hid hnp
 clear q hb hs hnp
 go_enter Tryz.func205, Tryz.ntmps205
 go_wp2_with fail
 refine hth.mono ?_
 rintro e w1 ⟨rfl, hw1⟩
 obtain rfl : w = w1 := hw1.symm
 go_wp2_with fail
 have hall : ∀ w' : World, Kp (fun k => k = og) w w' → (w'.cell? ⟨b, 0, none⟩ = some (.int .i64 c.l.nodes) ∧ w'.cell? ⟨b, 1, none⟩ = some (.int .i64 c.l.slots) ∧ w'.cell? ⟨b, 2, none⟩ = some (.int .i64 c.l.holders) ∧ w'.cell? ⟨b, 3, none⟩ = some (.int .u32 c.l.tag) ∧ w'.cell? ⟨b, 4, none⟩ = some (.int .i64 c.budget) ∧ w'.cell? ⟨b, 5, none⟩ = some (.int .i64 c.base) ∧ w'.cell? ⟨b, 6, none⟩ = some (.int .u64 c.wait) ∧ w'.cell? ⟨b, 7, none⟩ = some (.slice (some ⟨hg, 0, none⟩) n n) ∧ w'.cell? ⟨b, 8, none⟩ = some (.slice (some ⟨og, 0, none⟩) n n) ∧ w'.cell? ⟨hg, t * 3, none⟩ = some (.slice A xs.length cc) ∧ w'.cell? ⟨hg, t * 3 + 1, none⟩ = some (.int .i64 pol.range) ∧ w'.cell? ⟨hg, t * 3 + 2, none⟩ = some (.int .i64 pol.exp)) := fun w' hk => ⟨hk.cell a0 ne1, hk.cell a1 ne1, hk.cell a2 ne1, hk.cell a3 ne1, hk.cell a4 ne1, hk.cell a5 ne1, hk.cell a6 ne1, hk.cell c7 ne1, hk.cell c8 ne1, hk.cell t0 ne2, hk.cell t1 ne2, hk.cell t2 ne2⟩
 have HA := Lib.hid hall
 have hlo : og < w.heap.size := World.block_lt_of_cell? w _ u0
 clear hall
 go_region_held3 (fun w' => w'.cell? ⟨b, 0, none⟩ = some (.int .i64 c.l.nodes) ∧ w'.cell? ⟨b, 1, none⟩ = some (.int .i64 c.l.slots) ∧ w'.cell? ⟨b, 2, none⟩ = some (.int .i64 c.l.holders) ∧ w'.cell? ⟨b, 3, none⟩ = some (.int .u32 c.l.tag) ∧ w'.cell? ⟨b, 4, none⟩ = some (.int .i64 c.budget) ∧ w'.cell? ⟨b, 5, none⟩ = some (.int .i64 c.base) ∧ w'.cell? ⟨b, 6, none⟩ = some (.int .u64 c.wait) ∧ w'.cell? ⟨b, 7, none⟩ = some (.slice (some ⟨hg, 0, none⟩) n n) ∧ w'.cell? ⟨b, 8, none⟩ = some (.slice (some ⟨og, 0, none⟩) n n) ∧ w'.cell? ⟨hg, t * 3, none⟩ = some (.slice A xs.length cc) ∧ w'.cell? ⟨hg, t * 3 + 1, none⟩ = some (.int .i64 pol.range) ∧ w'.cell? ⟨hg, t * 3 + 2, none⟩ = some (.int .i64 pol.exp))
  (first | exact HA.out _ (Kp.refl _ _) | exact HA.out _ (Kp.refl _ _).drew | exact HA.out _ hk2 | exact HA.out _ hk2.drew | exact HA.out _ (Kp.st hk2 (.inl rfl) t _) | exact HA.out _ (Kp.st hk2 (.inl rfl) t _).drew)
  ((go_at_call 207; refine (HNP.out w.drew (Kp.refl _ _).drew).mono ?_; rintro e w2 ⟨o, rfl, ho, hk1, hop⟩; have hk2 : Kp (fun k => k = og) w w2 := (Kp.undrew hk1).mono (fun _ e => e.elim); have v0 := (Kp.undrew hk1).cell u0 (fun e => e); have vf := (Kp.undrew hk1).froz hlo (fun e => e) uf))
 refine any_world (p := fun W => Exit.inBlock _ _ _ _ W) ?_
 intro W hW
 have w8 : W.cell? ⟨b, 8, none⟩ = some (.slice (some ⟨og, 0, none⟩) n n) := by rw [hW]; exact (hs_other _ _ _ _ (eq_false (fun e => ne1 (by injection e with e _; exact e.symm)))).trans ((Kp.undrew hk1).cell c8 (fun e => e))
 have wo : W.cell? ⟨og, t, none⟩ = some (.pointer (some ⟨o, 0, none⟩)) := by rw [hW]; exact World.cell?_setCell_same _ _ _ v0
 have HW := Lib.hid hW
 clear hW v0 vf u0 uf
 go_wp2
 go_ret
 exact ⟨o, w2, rfl, ho, Kp.undrew hk1, hop, HW.out⟩
end Go.Proofs.YtgdoeoackhfikaaGreatDoor

namespace Go.Proofs.YtgdoeoackhfikaaGreatDoor
open Go.RowKit Go.Proofs.YtgdoeoackhfikaaGreatDoorW.PrintWords
set_option maxRecDepth 100000
set_option maxHeartbeats 4000000
set_option linter.unusedSimpArgs false
set_option linter.unusedVariables false
attribute [local go_sem] hs_other hs_alloc hs_falloc
attribute [local go_sem ↓] Go.wp_at_zero Go.wp_at_succ
def ThreadPost (w : World) (xs : List Int) (pol : Pol) (e : Ending) (w' : World) : Prop :=
 ∃ A' c', e = .returned (.agg #[.slice A' xs.length c', .int .i64 pol.range, .int .i64 pol.exp]) ∧ Kp (fun _ => False) w w' ∧ ShelfAt w' (fun k => w.heap.size ≤ k ∧ k < w'.heap.size) (.slice A' xs.length c') xs
theorem op_Thread (w : World) (F : Nat → Prop) (o : Nat) (x : OpS) (hx : OpAt w F o x) :
  Calls Tryz.prog 72 #[.pointer (some ⟨o, 0, none⟩)] w (ThreadPost w x.shelf x.pol) := by
 obtain ⟨sv, pv, P, ho, hsh, hpa, hP⟩ := hx.obj
 have hfew := hx.few
 have hcl := fun W (hk : Kp (fun _ => False) w W) => clone_shelf W 0 sv x.shelf.length (nums .u32 x.shelf) (hk.row hsh.row (fun _ _ e => e)) (by simp [nums, Value.oneCell']) (by omega)
 obtain ⟨A, cc, rfl⟩ := row_slice hsh.row
 have hrg := hsh.range
 obtain ⟨q, fq, lq⟩ := obj_cells ho
 have c7 : w.cell? ⟨o, 7, none⟩ = some (.slice A x.shelf.length cc) := q 7
 have c8 : w.cell? ⟨o, 8, none⟩ = some (.int .i64 x.pol.range) := q 8
 have c9 : w.cell? ⟨o, 9, none⟩ = some (.int .i64 x.pol.exp) := q 9
 have HCL := Lib.hid hcl
 have HRG := Lib.hid hrg
 clear q fq hx hsh hpa hP ho hcl hrg
 go_enter Tryz.func72, Tryz.ntmps72
 go_wp2_with fail
 refine wp_world ?_
 intro W hW
 have hKW : Kp (fun _ => False) w W := by rw [hW]; exact (Kp.refl _ _).alloc _
 have hO0 : W.heap[w.heap.size]? = some (.cells #[.slice none 0 0, .int .i64 0, .int .i64 0] 85 (0, 0)) := by rw [hW]; exact hp_new _ _ _ rfl
 have d7 := hKW.cell c7 (fun e => e)
 have d8 := hKW.cell c8 (fun e => e)
 have d9 := hKW.cell c9 (fun e => e)
 have hsz : w.heap.size < W.heap.size := lt_of_heap hO0
 clear hW c7 c8 c9
 have hall : ∀ w' : World, Kp (fun k => k = w.heap.size) W w' → (w'.cell? ⟨o, 7, none⟩ = some (.slice A x.shelf.length cc) ∧ w'.cell? ⟨o, 8, none⟩ = some (.int .i64 x.pol.range) ∧ w'.cell? ⟨o, 9, none⟩ = some (.int .i64 x.pol.exp)) := fun w' hk => ⟨hk.cell d7 (by intro e; have e : o = w.heap.size := e; omega), hk.cell d8 (by intro e; have e : o = w.heap.size := e; omega), hk.cell d9 (by intro e; have e : o = w.heap.size := e; omega)⟩
 have HA := Lib.hid hall
 clear hall
 go_region_held3 (fun w' => w'.cell? ⟨o, 7, none⟩ = some (.slice A x.shelf.length cc) ∧ w'.cell? ⟨o, 8, none⟩ = some (.int .i64 x.pol.range) ∧ w'.cell? ⟨o, 9, none⟩ = some (.int .i64 x.pol.exp))
  (first | exact HA.out _ (Kp.refl _ _) | exact HA.out _ (Kp.refl _ _).drew | exact HA.out _ hk2 | exact HA.out _ hk2.drew | exact HA.out _ (Kp.st (Kp.st (Kp.st hk2 (.inl rfl) 0 _) (.inl rfl) 1 _) (.inl rfl) 2 _) | exact HA.out _ (Kp.st (Kp.st (Kp.st hk2 (.inl rfl) 0 _) (.inl rfl) 1 _) (.inl rfl) 2 _).drew)
  ((go_at_call 73; refine (HCL.out W.drew hKW.drew).mono ?_; rintro e w2 ⟨A', c', rfl, hr1, hb1⟩; have hk1 : Kp (fun _ => False) W w2 := Kp.undrew (Kp.nb hb1); have hk2 : Kp (fun k => k = w.heap.size) W w2 := hk1.mono (fun _ e => e.elim); have hO2 := hk1.heap hO0 (fun e => e); have v0 : w2.cell? ⟨w.heap.size, 0, none⟩ = some (.slice none 0 0) := (obj_cells hO2).1 0; have v1 : w2.cell? ⟨w.heap.size, 1, none⟩ = some (.int .i64 0) := (obj_cells hO2).1 1; have v2 : w2.cell? ⟨w.heap.size, 2, none⟩ = some (.int .i64 0) := (obj_cells hO2).1 2; have g0 := (obj_cells hO2).2.1 0; have g1 := (obj_cells hO2).2.1 1; have g2 := (obj_cells hO2).2.1 2; have HO2 := Lib.hid hO2; have HR1 := Lib.hid hr1))
 refine any_world (p := fun W => Exit.then _ _ _ _ W) ?_
 intro W3 hW3
 have hX : W3.heap[w.heap.size]? = some (.cells #[.slice A' x.shelf.length c', .int .i64 x.pol.range, .int .i64 x.pol.exp] 85 (0, 0)) := by
  rw [hW3]
  exact hp_same _ _ 2 _ (hp_same _ _ 1 _ (hp_same _ _ 0 _ HO2.out))
 have hK3 : Kp (fun k => k = w.heap.size) w2 W3 := by
  rw [hW3]
  exact Kp.st (S := fun k => k = w.heap.size) (Kp.st (S := fun k => k = w.heap.size) (Kp.st (S := fun k => k = w.heap.size) (Kp.refl _ _) (.inl rfl) 0 _) (.inl rfl) 1 _) (.inl rfl) 2 _
 obtain ⟨q2, _, _⟩ := obj_cells hX
 clear hW3 v0 v1 v2 g0 g1 g2 hX
 go_wp2_with fail
 refine bodyPost_ret (v := .agg #[.slice A' x.shelf.length c', .int .i64 x.pol.range, .int .i64 x.pol.exp]) (by simp [results, Tryz.results72, go_sem, q2]) rfl ?_
 have s3 := hK3.size
 have s2 := hk1.size
 have hr3 : W3.ownsRow (w.heap.size + 1) 30 1 (.slice A' x.shelf.length c') x.shelf.length (nums .u32 x.shelf) := hK3.row (row_base HR1.out (show w.heap.size + 1 ≤ W.drew.heap.size from hsz)) (fun k hk e => by
  have e : k = w.heap.size := e
  have h5 : W.drew.heap.size ≤ k := (HR1.out.lt k hk).1
  have h6 : W.drew.heap.size = W.heap.size := rfl
  omega)
 refine ⟨A', c', rfl, (hKW.also hk1).comp hK3 (fun k hk e => by omega), row_base hr3 (Nat.zero_le _), fun k hk => ?_, HRG.out⟩
 have := hr3.lt k hk
 omega
def EndedPost (w : World) (hg og t : Nat) (xs : List Int) (pol : Pol) (e : Ending) (w' : World) : Prop :=
 ∃ (A' : Option Addr) (c' : Nat) (W : World), e = .returned (.tuple #[]) ∧ Kp (fun _ => False) w W ∧ ShelfAt W (fun k => w.heap.size ≤ k ∧ k < W.heap.size) (.slice A' xs.length c') xs ∧
  w' = (((W.setCell ⟨hg, t * 3, none⟩ (.slice A' xs.length c')).setCell ⟨hg, t * 3 + 1, none⟩ (.int .i64 pol.range)).setCell ⟨hg, t * 3 + 2, none⟩ (.int .i64 pol.exp)).setCell ⟨og, t, none⟩ (.pointer none)
theorem stacks_Ended (w : World) (b : Nat) (cv : List Value) (hg og n t : Nat) (hb : StacksC w b cv (.slice (some ⟨hg, 0, none⟩) n n) og n) (ht : t < n) (F : Nat → Prop) (o : Nat) (x : OpS) (hx : OpAt w F o x) (sv : Value) (r0 e0 : Int)
  (t0 : w.cell? ⟨hg, t * 3, none⟩ = some sv) (t1 : w.cell? ⟨hg, t * 3 + 1, none⟩ = some (.int .i64 r0)) (t2 : w.cell? ⟨hg, t * 3 + 2, none⟩ = some (.int .i64 e0)) (tf : ∀ j, w.frozen? ⟨hg, j, none⟩ = false) (u0 : w.cell? ⟨og, t, none⟩ = some (.pointer (some ⟨o, 0, none⟩))) (uf : w.frozen? ⟨og, t, none⟩ = false) (ne1 : b ≠ og) (ne2 : hg ≠ og) (ne3 : b ≠ hg) :
  Calls Tryz.prog 206 #[.pointer (some ⟨b, 0, none⟩), .int .i64 t] w (EndedPost w hg og t x.shelf x.pol) := by
 have hop := stacks_Op w b cv (some ⟨hg, 0, none⟩) n n og n t (some ⟨o, 0, none⟩) hb ht rfl u0
 have hth := fun W (hk : Kp (fun _ => False) w W) => op_Thread W F o x (hx.kept (fun k o _ ho => hk.heap ho (fun e => e)) (fun _ h => h))
 have ht' : (t : Int) < (n : Int) := by omega
 have c7 := hb.threads
 have c8 := hb.ops
 have hlh : hg < w.heap.size := World.block_lt_of_cell? w _ t0
 have hlo : og < w.heap.size := World.block_lt_of_cell? w _ u0
 have HTH := Lib.hid hth
 clear hx hb hth
 have hall : ∀ w' : World, Kp (fun k => k = hg ∨ k = og) w w' → (w'.cell? ⟨b, 7, none⟩ = some (.slice (some ⟨hg, 0, none⟩) n n) ∧ w'.cell? ⟨b, 8, none⟩ = some (.slice (some ⟨og, 0, none⟩) n n)) := fun w' hk => ⟨hk.cell c7 (fun e => e.elim ne3 ne1), hk.cell c8 (fun e => e.elim ne3 ne1)⟩
 have HA := Lib.hid hall
 clear hall
 have n1 : (hg = og) = False := eq_false ne2
 go_enter Tryz.func206, Tryz.ntmps206
 go_wp2_with fail
 refine hop.mono ?_
 rintro e w1 ⟨rfl, hw1⟩
 obtain rfl : w = w1 := hw1.symm
 go_wp2_with fail
 go_region_held3 (fun w' => w'.cell? ⟨b, 7, none⟩ = some (.slice (some ⟨hg, 0, none⟩) n n) ∧ w'.cell? ⟨b, 8, none⟩ = some (.slice (some ⟨og, 0, none⟩) n n))
  (first | exact HA.out _ (Kp.refl _ _) | exact HA.out _ (Kp.refl _ _).drew | exact HA.out _ hk2 | exact HA.out _ hk2.drew | exact HA.out _ (Kp.st (Kp.st (Kp.st hk2 (.inl (.inl rfl)) _ _) (.inl (.inl rfl)) _ _) (.inl (.inl rfl)) _ _) | exact HA.out _ (Kp.st (Kp.st (Kp.st (Kp.st hk2 (.inl (.inl rfl)) _ _) (.inl (.inl rfl)) _ _) (.inl (.inl rfl)) _ _) (.inl (.inr rfl)) _ _) | exact HA.out _ (Kp.st hk2 (.inl (.inr rfl)) _ _) | exact HA.out _ (Kp.st (Kp.st (Kp.st (Kp.st hk2 (.inl (.inr rfl)) _ _) (.inl (.inl rfl)) _ _) (.inl (.inl rfl)) _ _) (.inl (.inl rfl)) _ _))
  ((go_at_call 72; refine (HTH.out w.drew (Kp.refl _ _).drew).mono ?_; rintro e w2 ⟨A', c', rfl, hk1, hsh⟩; have hk2 : Kp (fun k => k = hg ∨ k = og) w w2 := (Kp.undrew hk1).mono (fun _ e => e.elim); have v0 := (Kp.undrew hk1).cell t0 (fun e => e); have v1 := (Kp.undrew hk1).cell t1 (fun e => e); have v2 := (Kp.undrew hk1).cell t2 (fun e => e); have vu := (Kp.undrew hk1).cell u0 (fun e => e); have vf := (Kp.undrew hk1).froz hlo (fun e => e) uf; have g0 := (Kp.undrew hk1).froz hlh (fun e => e) (tf (t * 3)); have g1 := (Kp.undrew hk1).froz hlh (fun e => e) (tf (t * 3 + 1)); have g2 := (Kp.undrew hk1).froz hlh (fun e => e) (tf (t * 3 + 2))))
 go_end0
 exact ⟨A', c', w2, rfl, Kp.undrew hk1, hsh, rfl⟩
end Go.Proofs.YtgdoeoackhfikaaGreatDoor

namespace Go.Proofs.YtgdoeoackhfikaaGreatDoor
set_option linter.unusedSimpArgs false
open Go.RowKit
set_option maxRecDepth 100000
set_option linter.unusedVariables false
set_option maxHeartbeats 2000000
theorem runner_numbers (op : Int) (w : World) :
  Calls Tryz.prog 43 #[.int .i32 op] w fun e w' => e = .returned (.int .i64 (numbersOf op)) ∧ w' = w := by
 by_cases h1 : op = 8593
 ·subst h1
  go_enter Tryz.func43, Tryz.ntmps43
  go_wp2
  go_ret
  exact ⟨rfl, rfl⟩
 by_cases h2 : op = 8595
 ·subst h2
  go_enter Tryz.func43, Tryz.ntmps43
  go_wp2
  go_ret
  exact ⟨rfl, rfl⟩
 by_cases h3 : op = 8226
 ·subst h3
  go_enter Tryz.func43, Tryz.ntmps43
  go_wp2
  go_ret
  exact ⟨rfl, rfl⟩
 by_cases h4 : op = 8987
 ·subst h4
  go_enter Tryz.func43, Tryz.ntmps43
  go_wp2
  go_ret
  exact ⟨rfl, rfl⟩
 by_cases h5 : op = 9858
 ·subst h5
  go_enter Tryz.func43, Tryz.ntmps43
  go_wp2
  go_ret
  exact ⟨rfl, rfl⟩
 ·have e : numbersOf op = -1 := by unfold numbersOf; rw [if_neg h1, if_neg (by omega)]
  rw [e]
  go_enter Tryz.func43, Tryz.ntmps43
  go_wp2
  go_ret
  exact ⟨rfl, rfl⟩
def RunnerC (w : World) (r s : Nat) (b : Value) (pushes events : Value) : Prop := w.heap[r]? = some (.cells #[.pointer (some ⟨s, 0, none⟩), b, pushes, events] 126 (0, 0))
theorem runner_Do_form (w : World) (r : Value) (op : Int) (A : Option Addr) (k c : Nat) (at_ : Int) :
  Calls Tryz.prog 14 #[r, .agg #[.int .i32 op, .slice A k c, .bool false, .int .i64 at_]] w fun e w' => e = .returned (.int .i64 3) ∧ Below w.heap.size w w' := by
 go_enter Tryz.func14, Tryz.ntmps14
 go_wp2_with fail
 refine (runner_numbers op _).mono ?_
 rintro e w' ⟨rfl, rfl⟩
 go_wp2
 go_ret
 exact ⟨rfl, by go_grown⟩
theorem runner_Do_op (w : World) (r : Value) (op : Int) (A : Option Addr) (k c : Nat) (at_ : Int) (h : numbersOf op = -1) :
  Calls Tryz.prog 14 #[r, .agg #[.int .i32 op, .slice A k c, .bool true, .int .i64 at_]] w fun e w' => e = .returned (.int .i64 7) ∧ Below w.heap.size w w' := by
 go_enter Tryz.func14, Tryz.ntmps14
 go_wp2_with fail
 refine (runner_numbers op _).mono ?_
 rintro e w' ⟨rfl, rfl⟩
 rw [h]
 go_wp2
 go_ret
 exact ⟨rfl, by go_grown⟩
theorem runner_Do_arg (w : World) (r : Value) (op : Int) (A : Option Addr) (k c : Nat) (at_ : Int) (h : 0 ≤ numbersOf op) (hk : (k : Int) ≠ numbersOf op) :
  Calls Tryz.prog 14 #[r, .agg #[.int .i32 op, .slice A k c, .bool true, .int .i64 at_]] w fun e w' => e = .returned (.int .i64 1) ∧ Below w.heap.size w w' := by
 obtain ⟨n, hn⟩ : ∃ n, numbersOf op = n := ⟨_, rfl⟩
 rw [hn] at h hk
 go_enter Tryz.func14, Tryz.ntmps14
 go_wp2_with fail
 refine (runner_numbers op _).mono ?_
 rintro e w' ⟨rfl, rfl⟩
 rw [hn]
 go_wp2
 go_ret
 exact ⟨rfl, by go_grown⟩
theorem runner_thread (w : World) (r s k : Nat) (b events : Value) (A : Option Addr) (c : Nat) (n : Int) (hr : RunnerC w r s b (.slice A k c) events) (hn : 0 ≤ n ∧ n < 18446744073709551616) (hk : k ≤ 8) :
  Calls Tryz.prog 46 #[.pointer (some ⟨r, 0, none⟩), .int .u64 n] w fun e w' => e = .returned (.tuple #[.int .i64 (IntKind.i64.wrap n), .bool (decide (n < k))]) ∧ Below w.heap.size w w' := by
 have c2 : w.cell? ⟨r, 2, none⟩ = some (.slice A k c) := by rw [Lib.cell_of_heap hr]; rfl
 go_enter Tryz.func46, Tryz.ntmps46
 go_wp2
 go_region_held3 (fun w' => w'.cell? ⟨r, 2, none⟩ = some (.slice A k c)) (first | exact c2 | go_keep) (fail)
 go_wp2
 go_ret2
 refine ⟨?_, by go_grown⟩
 have hu : IntKind.u64.wrap (k : Int) = k := by
  have : IntKind.u64.wrap (k : Int) = (k : Int) % 18446744073709551616 := by simp [IntKind.wrap, IntKind.bits, IntKind.signed]
  rw [this]; omega
 show Ending.returned (.tuple #[.int .i64 (IntKind.i64.wrap n), .bool (decide (n < IntKind.u64.wrap (k : Int)))]) = _
 rw [hu]
end Go.Proofs.YtgdoeoackhfikaaGreatDoor

namespace Go.Proofs.YtgdoeoackhfikaaGreatDoor
open Go.RowKit Go.Proofs.YtgdoeoackhfikaaGreatDoorW.PrintWords
set_option maxRecDepth 100000
set_option maxHeartbeats 4000000
set_option linter.unusedSimpArgs false
set_option linter.unusedVariables false
attribute [local go_sem] hs_other hs_alloc hs_falloc
attribute [local go_sem ↓] Go.wp_at_zero Go.wp_at_succ
structure RB where
 r : Nat
 s : Nat
 q : Nat
 k : Nat
 mb : MB
 dv : Value
 tg : Nat
 pg : Nat
 hg : Nat
 og : Nat
 ev : Value
 sh : List Value
 os : List (Option Nat)
 fp : Nat → Nat → Prop
def RB.fix (B : RB) (k : Nat) : Prop := k = B.r ∨ k = B.s ∨ k = B.q ∨ k = B.k ∨ B.mb.has k ∨ B.dv.ownBlock = some k ∨ k = B.tg ∨ k = B.pg ∨ k = B.hg ∨ k = B.og ∨ B.ev.ownBlock = some k ∨ ∃ sv, sv ∈ B.sh ∧ sv.ownBlock = some k
def RB.all (B : RB) (k : Nat) : Prop := B.fix k ∨ ∃ t, B.fp t k
def machV : Option Nat → Value
 | none => .nilIface
 | some o => .iface 65 (.pointer (some ⟨o, 0, none⟩))
def opV (o : Option Nat) : Value := .pointer (o.map fun k => ⟨k, 0, none⟩)
def evV (x : Ev) : List Value := [.int .i64 x.t, .bool x.ret, .bool x.push, .int .u64 x.v, .int .i64 x.st]
def thRow (sh : List Value) (ths : List Th) : List Value := (List.zipWith (fun sv (x : Th) => thV sv x.pol) sh ths).flatten
def ThAt (w : World) (B : RB) (c : ECfg) (t : Nat) (x : Th) : Prop :=
 ∃ sv, B.sh[t]? = some sv ∧ ShelfAt w (fun _ => True) sv x.shelf ∧ x.pol.right c.l.slots ∧ x.shelf.length ≤ 1000000 ∧
  match x.op with
  | none => B.os[t]? = some none
  | some y => ∃ o, B.os[t]? = some (some o) ∧ OpAt w (B.fp t) o y ∧ y.c = c
structure RunAt (w : World) (B : RB) (σ : Run) : Prop where
 n8 : 1 ≤ σ.ths.length ∧ σ.ths.length ≤ 8
 ls : B.sh.length = σ.ths.length
 lo : B.os.length = σ.ths.length
 run : RunnerC w B.r B.s (.iface 26 (.pointer (some ⟨B.k, 0, none⟩))) (.slice (some ⟨B.pg, 0, none⟩) σ.ths.length σ.ths.length) B.ev
 sch : SchedC w B.s B.mb.m B.q B.tg σ.ths.length σ.picks
 mem : MemAt w B.mb σ.mem
 src : SrcAt w B.q B.dv σ.src
 book : StacksC w B.k σ.c.cs (.slice (some ⟨B.hg, 0, none⟩) σ.ths.length σ.ths.length) B.og σ.ths.length
 tgc : w.heap[B.tg]? = some (.cells (B.os.map machV).toArray 149 (0, 0))
 ogc : w.heap[B.og]? = some (.cells (B.os.map opV).toArray 65 (0, 0))
 pgc : w.heap[B.pg]? = some (.cells (σ.ths.map (fun x => Value.bool x.push)).toArray 4 (0, 0))
 hgc : w.heap[B.hg]? = some (.cells (thRow B.sh σ.ths).toArray 85 (0, 0))
 evr : w.ownsRow 0 64 5 B.ev σ.evs.length (σ.evs.flatMap evV)
 right : σ.c.right
 rwt : 0 ≤ σ.c.wait ∧ σ.c.wait < 18446744073709551616
 pk : 0 ≤ σ.picks
 ths : ∀ t x, σ.ths[t]? = some x → ThAt w B σ.c t x
 fpx : ∀ t k, B.fp t k → ¬ B.fix k ∧ k < w.heap.size
 fpd : ∀ t u k, B.fp t k → B.fp u k → t = u
structure RB.Like (B B' : RB) : Prop where
 r : B'.r = B.r
 s : B'.s = B.s
 q : B'.q = B.q
 k : B'.k = B.k
 m : B'.mb.m = B.mb.m
theorem RB.Like.refl (B : RB) : RB.Like B B := ⟨rfl, rfl, rfl, rfl, rfl⟩
theorem ThAt.kept {w W : World} {B : RB} {c : ECfg} {t : Nat} {x : Th} (h : ThAt w B c t x) (hk : ∀ k o, B.all k → w.heap[k]? = some o → W.heap[k]? = some o) : ThAt W B c t x := by
 obtain ⟨sv, h1, h2, h3, h4, h5⟩ := h
 have hm : sv ∈ B.sh := List.mem_of_getElem? h1
 refine ⟨sv, h1, ⟨row_step h2.row fun k hv => ?_, fun _ _ => trivial, h2.range⟩, h3, h4, ?_⟩
 ·have hl := (h2.row.lt k hv).2
  obtain ⟨o, ho⟩ : ∃ o, w.heap[k]? = some o := ⟨_, Array.getElem?_eq_getElem hl⟩
  rw [ho]
  exact hk k o (.inl (.inr (.inr (.inr (.inr (.inr (.inr (.inr (.inr (.inr (.inr (.inr ⟨sv, hm, hv⟩)))))))))))) ho
 ·cases hx : x.op with
  | none => rw [hx] at h5; exact h5
  | some y =>
   rw [hx] at h5
   obtain ⟨o, h6, h7, h8⟩ := h5
   exact ⟨o, h6, h7.kept (fun k ob hF ho => hk k ob (.inr ⟨t, hF⟩) ho) (fun _ h => h), h8⟩
theorem RunAt.kept {S : Nat → Prop} {w W : World} {B : RB} {σ : Run} (h : RunAt w B σ) (hk : Kp S w W) (hn : ∀ k, B.all k → ¬ S k) : RunAt W B σ := by
 have hf : ∀ k, B.fix k → ¬ S k := fun k h => hn k (.inl h)
 have hx : ∀ k o, B.all k → w.heap[k]? = some o → W.heap[k]? = some o := fun k o ha ho => hk.heap ho (hn k ha)
 have hz : ∀ k o, B.fix k → w.heap[k]? = some o → W.heap[k]? = some o := fun k o ha ho => hx k o (.inl ha) ho
 refine ⟨h.n8, h.ls, h.lo, hz _ _ (.inl rfl) h.run, hz _ _ (.inr (.inl rfl)) h.sch, h.mem.kept hk fun k hb => hf k (.inr (.inr (.inr (.inr (.inl hb))))), h.src.kept hk fun k hb => ?_, ⟨h.book.1, hz _ _ (.inr (.inr (.inr (.inl rfl)))) h.book.2⟩,
  hz _ _ (.inr (.inr (.inr (.inr (.inr (.inr (.inl rfl))))))) h.tgc, hz _ _ (.inr (.inr (.inr (.inr (.inr (.inr (.inr (.inr (.inr (.inl rfl)))))))))) h.ogc, hz _ _ (.inr (.inr (.inr (.inr (.inr (.inr (.inr (.inl rfl)))))))) h.pgc, hz _ _ (.inr (.inr (.inr (.inr (.inr (.inr (.inr (.inr (.inl rfl))))))))) h.hgc,
  hk.row h.evr fun k hv => hf k (.inr (.inr (.inr (.inr (.inr (.inr (.inr (.inr (.inr (.inr (.inl hv))))))))))), h.right, h.rwt, h.pk, fun t x hx' => (h.ths t x hx').kept hx, fun t k hp => ⟨(h.fpx t k hp).1, Nat.lt_of_lt_of_le (h.fpx t k hp).2 hk.size⟩, h.fpd⟩
 rcases hb with rfl | hb
 ·exact hf _ (.inr (.inr (.inl rfl)))
 ·exact hf _ (.inr (.inr (.inr (.inr (.inr (.inl hb))))))
end Go.Proofs.YtgdoeoackhfikaaGreatDoor

namespace Go.Proofs.YtgdoeoackhfikaaGreatDoor
open Go.RowKit Go.Proofs.YtgdoeoackhfikaaGreatDoorW.PrintWords
set_option maxRecDepth 100000
set_option maxHeartbeats 4000000
set_option linter.unusedSimpArgs false
set_option linter.unusedVariables false
attribute [local go_sem] hs_other hs_alloc hs_falloc
attribute [local go_sem ↓] Go.wp_at_zero Go.wp_at_succ
theorem info_bool : (Tryz.prog.info? 4).map (fun i => (i.zero, i.size, i.bytes)) = some (some (.bool false), 1, 1) := by kernel_rfl
theorem runner_New (w : World) (v : Value) (xs : List Int) (hr : w.ownsRow 0 33 1 v xs.length (nums .u64 xs)) (h0 : 0 < xs.length) (hl : xs.length ≤ 1024) (hx : ∀ z ∈ xs, 0 ≤ z ∧ z < 18446744073709551616) (n : Nat) (hn : 1 ≤ n ∧ n ≤ 8) (ty : TypeId) (bv : Value) :
  Calls Tryz.prog 42 #[v, .int .i64 n, .iface ty bv] w fun e w' => ∃ (r s pg : Nat) (W : World), e = .returned (.tuple #[.pointer (some ⟨r, 0, none⟩), .int .i64 0]) ∧ SchedNew w xs n s W ∧ Kp (fun _ => False) W w' ∧ RunnerC w' r s (.iface ty bv) (.slice (some ⟨pg, 0, none⟩) n n) (.slice none 0 0) ∧ w'.heap[pg]? = some (.cells (Array.replicate n (.bool false)) 4 (0, 0)) ∧ w.heap.size ≤ r ∧ w.heap.size ≤ pg := by
 have hsn := sched_New w v xs hr h0 hl hx n hn
 obtain ⟨A, cc, rfl⟩ := row_slice hr
 obtain ⟨i0, hi, hz0, hz1, hz2⟩ := info_parts info_bool
 have hmk : ∀ W, (Instr.makeSlice 124 (.int .i64 (n : Int)) (.int .i64 (n : Int))).run Tryz.prog W = .ok (.slice (some ⟨W.heap.size, 0, none⟩) n n) (W.alloc (.cells (Array.replicate n (.bool false)) 4)) :=
  fun W => by
   have := run_made (P := Tryz.prog) 124 4 i0 _ Tryz.underlying124 hi hz0 hz1 rfl n (by omega) (by omega) W
   simpa using this
 clear hr hx hi hz0 hz1 hz2
 go_enter Tryz.func42, Tryz.ntmps42
 go_wp2_with fail
 refine hsn.mono ?_
 rintro e w1 ⟨s, rfl, hS⟩
 have HS := Lib.hid hS
 have hsz : w.heap.size ≤ w1.heap.size := by
  obtain ⟨_, _, _, _, _, _, _, _, _, _, _, hk⟩ := hS
  exact hk.size
 clear hS
 go_wp2_with fail
 go_ret2
 exact ⟨w1.heap.size + 1, s, w1.heap.size, w1, rfl, HS.out, ((Kp.refl _ _).alloc _).alloc _, hp_new _ _ _ (by simp), (hp_alloc _ _ _ (by simp)).trans (hp_new _ _ _ rfl), by omega, by omega⟩
theorem reps_int (k : IntKind) (xs : List Int) (inner : List Value) (h : Reps (fun (x : Int) cs => cs = [.int k x]) 1 xs inner) : inner = nums k xs := by
 obtain ⟨hl, hr⟩ := h
 apply List.ext_getElem?
 intro j
 by_cases hj : j < xs.length
 ·have h1 := hr j xs[j] (List.getElem?_eq_getElem hj)
  have hj2 : j < inner.length := by rw [hl]; omega
  have h2 : inner[j]? = some (.int k xs[j]) := by
   have e : ((inner.drop (j * 1)).take 1)[0]? = inner[j]? := by simp
   rw [h1] at e
   exact e.symm
  rw [h2]
  simp [nums, List.getElem?_eq_getElem hj]
 ·rw [List.getElem?_eq_none (by rw [hl]; omega), List.getElem?_eq_none (by simp [nums]; omega)]
theorem own_of_R {e : Nat} {w : World} {base : Nat} {ok : Nat → Prop} {k : IntKind} {v : Value} {xs : List Int} (h : Kd.R (Kd.int k) e w base ok v xs) : w.ownsRow base e 1 v xs.length (nums k xs) := by
 obtain ⟨_, inner, ho, hr⟩ := h
 rw [← reps_int k xs inner ⟨hr.1, fun j p hj => hr.2 j p hj⟩]
 exact ho
theorem pol_new_right (s : Int) (h : 0 ≤ s ∧ s ≤ 16) : (Pol.new s).right s := by
 refine ⟨h.1, h.2, ?_⟩
 unfold Pol.new Pol.within
 simp only [Pol.mk.injEq]
 omega
theorem runner_Stack (w : World) (c : ECfg) (hc : c.right) (hw : 0 ≤ c.wait ∧ c.wait < 18446744073709551616) (n : Nat) (hn : 1 ≤ n ∧ n ≤ 8) (kf : Nat) (ws : List Int) (hF : G.layout_Fresh.f kf c.l.nodes c.l.slots c.l.holders c.l.tag = some (ws, 0)) (h0 : 0 < ws.length) (hl : ws.length ≤ 1024) (hx : ∀ z ∈ ws, 0 ≤ z ∧ z < 18446744073709551616) :
  Calls Tryz.prog 12 #[c.v, .int .i64 n] w fun e w' => ∃ B : RB, e = .returned (.tuple #[.pointer (some ⟨B.r, 0, none⟩), .pointer (some ⟨B.k, 0, none⟩), .int .i64 0]) ∧ RunAt w' B (newRun c n ws) ∧ Kp (fun _ => False) w w' ∧ (∀ k, B.all k → w.heap.size ≤ k) := by
 have hbn := fun W => stacks_New W c hc n hn
 have hfr := fun W => G.layout_Fresh.calls kf c.l.nodes c.l.slots c.l.holders c.l.tag ws 0 W hF
 have hrn := fun W v (hr : World.ownsRow W 0 33 1 v ws.length (nums .u64 ws)) ty bv => runner_New W v ws hr h0 hl hx n hn ty bv
 unfold ECfg.v at hbn ⊢
 have HRN := Lib.hid hrn
 have HX := Lib.hid hx
 have HF := Lib.hid hF
 clear hrn hx hF
 go_enter Tryz.func12, Tryz.ntmps12
 go_wp2_with fail
 refine (hbn _).mono ?_
 rintro e w1 ⟨b, rfl, hB⟩
 have hB0 := hB
 obtain ⟨hg, og, b1, b2, b3, b4, b5, b6, b7⟩ := hB
 have hbox := b7.heap (b := w.heap.size) (o := .cells #[.int .i64 c.l.nodes, .int .i64 c.l.slots, .int .i64 c.l.holders, .int .u32 c.l.tag, .int .i64 c.budget, .int .i64 c.base, .int .u64 c.wait] 35 (0, 0)) (hp_new _ _ _ rfl) (fun e => e)
 obtain ⟨q, _, lq⟩ := obj_cells hbox
 have a0 : w1.cell? ⟨w.heap.size, 0, none⟩ = some (.int .i64 c.l.nodes) := q 0
 have a1 : w1.cell? ⟨w.heap.size, 1, none⟩ = some (.int .i64 c.l.slots) := q 1
 have a2 : w1.cell? ⟨w.heap.size, 2, none⟩ = some (.int .i64 c.l.holders) := q 2
 have a3 : w1.cell? ⟨w.heap.size, 3, none⟩ = some (.int .u32 c.l.tag) := q 3
 have HB1 := Lib.hid b1
 have HB2 := Lib.hid b2
 have HB3 := Lib.hid b3
 have HB := Lib.hid hB0
 have hk1 : Kp (fun _ => False) w w1 := ((Kp.refl _ w).alloc _).also b7
 have z4 : w.heap.size ≤ b := by simp at b4; omega
 have z5 : w.heap.size ≤ hg := by simp at b5; omega
 have z6 : w.heap.size ≤ og := by simp at b6; omega
 clear hB0 b1 b2 b3 q hbox b7 b4 b5 b6
 go_wp2_with fail
 refine (hfr _).mono ?_
 rintro e w2 ⟨v0, rfl, hR, hb2⟩
 have hown := own_of_R hR
 obtain ⟨A, cc, rfl⟩ := row_slice hown
 have hk2 := Kp.nb hb2
 have HOW := Lib.hid (row_base hown (Nat.zero_le _))
 clear hR hown hb2
 go_wp2_with fail
 refine (HRN.out _ _ HOW.out _ _).mono ?_
 rintro e w3 ⟨r, s, pg, W, rfl, hS, hkW, hC, hP, hr3, hp3⟩
 have HS := Lib.hid hS
 have HC := Lib.hid hC
 have HP := Lib.hid hP
 clear hS hC hP
 go_wp2_with fail
 refine bodyPost_ret (v := .tuple #[.pointer (some ⟨r, 0, none⟩), .pointer (some ⟨b, 0, none⟩), .int .i64 0]) (by simp [results, Tryz.results12, go_sem]) rfl ?_
 obtain ⟨mb, q, tg, s1, s2, s3, s4, s5, s6, s7, s8, s9⟩ := HS.out
 have z1 := hk1.size
 have z2 := hk2.size
 have z3 := s9.size
 have z7 := hkW.size
 have hk13 : Kp (fun _ => False) w1 w3 := (hk2.also s9).also hkW
 refine ⟨⟨r, s, q, b, mb, .slice none 0 0, tg, pg, hg, og, .slice none 0 0, List.replicate n (.slice none 0 0), List.replicate n none, fun _ _ => False⟩, rfl, ?_, hk1.also hk13, ?_⟩
 ·have e1 : ∀ t x, (newRun c n ws).ths[t]? = some x → t < n ∧ x = ⟨[], Pol.new c.l.slots, none, false⟩ := fun t x h => by
   obtain ⟨h1, h2⟩ := List.getElem?_eq_some_iff.1 h
   have h3 : t < n := by simpa [newRun] using h1
   exact ⟨h3, by rw [← h2]; simp [newRun]⟩
  have el : (newRun c n ws).ths.length = n := by simp [newRun]
  refine ⟨by rw [el]; exact hn, by rw [el]; simp, by rw [el]; simp, by rw [el]; exact HC.out, by rw [el]; exact hkW.heap s1 (fun e => e), s2.same hkW, s3.kept hkW (fun _ _ e => e), ?_, ?_, ?_, ?_, ?_, World.ownsRow_nil _ _ _ _, hc, hw, by simp [newRun], fun t x hx => ?_, fun t k h => h.elim, fun t u k h => h.elim⟩
  ·rw [el]
   exact ⟨HB1.out.1, hk13.heap HB1.out.2 (fun e => e)⟩
  ·have := hkW.heap s4 (fun e => e)
   simpa [machV] using this
  ·have := hk13.heap HB3.out (fun e => e)
   simpa [opV] using this
  ·have := HP.out
   simpa [newRun] using this
  ·have := hk13.heap HB2.out (fun e => e)
   have e2 : thRow (List.replicate n (.slice none 0 0)) (newRun c n ws).ths = repL n (thV (.slice none 0 0) (Pol.new c.l.slots)) := by
    unfold thRow newRun repL
    simp [List.zipWith_replicate]
   rw [e2]
   exact this
  ·obtain ⟨ht, rfl⟩ := e1 t x hx
   refine ⟨.slice none 0 0, by simp [ht], ⟨World.ownsRow_nil _ _ _ _, fun _ _ => trivial, by simp⟩, pol_new_right _ ⟨hc.1.2.2.1, hc.1.2.2.2.1⟩, by simp, ?_⟩
   show (List.replicate n (none : Option Nat))[t]? = some none
   simp [ht]
 ·intro k hk
  rcases hk with (h | h | h | h | h | h | h | h | h | h | h | ⟨sv, h, h'⟩) | ⟨t, h⟩
  ·have h : k = r := h; omega
  ·have h : k = s := h; omega
  ·have h : k = q := h; omega
  ·have h : k = b := h; omega
  ·have := s6 k h; omega
  ·cases h
  ·have h : k = tg := h; omega
  ·have h : k = pg := h; omega
  ·have h : k = hg := h; omega
  ·have h : k = og := h; omega
  ·cases h
  ·have h : sv = .slice none 0 0 := (List.mem_replicate.1 h).2
   rw [h] at h'
   cases h'
  ·exact h.elim
end Go.Proofs.YtgdoeoackhfikaaGreatDoor

namespace Go.Proofs.YtgdoeoackhfikaaGreatDoor
open Go.RowKit Go.Proofs.YtgdoeoackhfikaaGreatDoorW.PrintWords
set_option maxRecDepth 100000
set_option linter.unusedSimpArgs false
set_option linter.unusedVariables false
def Ty (w : World) (k : Nat) (u : TypeId) : Prop := ∃ cs f, w.heap[k]? = some (.cells cs u f)
theorem Ty.ne {w : World} {a b : Nat} {u v : TypeId} (h1 : Ty w a u) (h2 : Ty w b v) (h : u ≠ v) : a ≠ b := by
 obtain ⟨_, _, h1⟩ := h1
 obtain ⟨_, _, h2⟩ := h2
 exact ne_of_type h1 h2 h
theorem Ty.of {w : World} {k : Nat} {cs : Array Value} {u : TypeId} {f : Nat × Nat} (h : w.heap[k]? = some (.cells cs u f)) : Ty w k u := ⟨_, _, h⟩
theorem Ty.row {w : World} {base : Nat} {e : TypeId} {size n : Nat} {v : Value} {xs : List Value} (hr : w.ownsRow base e size v n xs) {k : Nat} (hk : v.ownBlock = some k) : Ty w k e := by
 rcases hr.2 with ⟨rfl, _⟩ | ⟨g, cap, cur, rfl, _, hh, _⟩
 ·cases hk
 ·injection hk with hk
  have hk : g = k := hk
  subst hk
  exact ⟨_, _, hh⟩
theorem mem_ty {w : World} {b : MB} {σ : MemS} (h : MemAt w b σ) {k : Nat} (hk : b.has k) : ∃ u, Ty w k u ∧ (u = 147 ∨ u = 33 ∨ u = 340) := by
 rcases hk with rfl | rfl | hk
 ·exact ⟨_, Ty.of h.own, .inl rfl⟩
 ·obtain ⟨cur, hr, _⟩ := h.row
  exact ⟨_, Ty.of hr, .inr (.inl rfl)⟩
 ·exact ⟨_, Ty.row h.notes hk, .inr (.inr rfl)⟩
theorem src_ty {w : World} {q : Nat} {dv : Value} {r : SrcS} (h : SrcAt w q dv r) {k : Nat} (hk : k = q ∨ dv.ownBlock = some k) : ∃ u, Ty w k u ∧ (u = 138 ∨ u = 3) := by
 rcases hk with rfl | hk
 ·exact ⟨_, Ty.of h.own, .inl rfl⟩
 ·exact ⟨_, Ty.row h.row hk, .inr rfl⟩
theorem RunAt.sh_ty {w : World} {B : RB} {σ : Run} (h : RunAt w B σ) {u : Nat} {sv : Value} {k : Nat} (hs : B.sh[u]? = some sv) (hk : sv.ownBlock = some k) : Ty w k 30 := by
 have hu : u < σ.ths.length := by rw [← h.ls]; exact (List.getElem?_eq_some_iff.1 hs).1
 obtain ⟨sv', h1, h2, _⟩ := h.ths u _ (List.getElem?_eq_getElem hu)
 rw [hs] at h1
 injection h1 with h1
 subst h1
 exact Ty.row h2.row hk
theorem ThAt.move {w W : World} {B B' : RB} {c : ECfg} {u : Nat} {z : Th} (h : ThAt w B c u z) (hsh : B'.sh[u]? = B.sh[u]?) (hos : B'.os[u]? = B.os[u]?) (hfp : B'.fp u = B.fp u)
  (hks : ∀ k sv, B.sh[u]? = some sv → sv.ownBlock = some k → W.heap[k]? = w.heap[k]?) (hkf : ∀ k, B.fp u k → W.heap[k]? = w.heap[k]?) : ThAt W B' c u z := by
 obtain ⟨sv, h1, h2, h3, h4, h5⟩ := h
 refine ⟨sv, hsh.trans h1, ⟨row_step h2.row fun k hv => hks k sv h1 hv, fun _ _ => trivial, h2.range⟩, h3, h4, ?_⟩
 cases hx : z.op with
 | none => rw [hx] at h5; exact hos.trans h5
 | some y =>
  rw [hx] at h5
  obtain ⟨o, h6, h7, h8⟩ := h5
  refine ⟨o, hos.trans h6, ?_, h8⟩
  rw [hfp]
  exact h7.kept (fun k ob hF ho => (hkf k hF).trans ho) (fun _ h => h)
theorem map_set {α : Type} (f : α → Value) (l : List α) (t : Nat) (x : α) : ((l.map f).toArray.setIfInBounds t (f x)) = ((l.set t x).map f).toArray := by
 simp [List.map_set]
theorem thRow_same (sh : List Value) (ths ths' : List Th) (h : ∀ t : Nat, (ths'[t]?).map Th.pol = (ths[t]?).map Th.pol) : thRow sh ths' = thRow sh ths := by
 unfold thRow
 congr 1
 apply List.ext_getElem?
 intro t
 have := h t
 simp only [List.getElem?_zipWith]
 cases h1 : sh[t]? with
 | none => simp
 | some a =>
  cases h2 : ths[t]? with
  | none => rw [h2] at this; cases h3 : ths'[t]? with
   | none => simp
   | some z => rw [h3] at this; simp at this
  | some y => rw [h2] at this; cases h3 : ths'[t]? with
   | none => rw [h3] at this; simp at this
   | some z => rw [h3] at this; simp at this; simp [this]
end Go.Proofs.YtgdoeoackhfikaaGreatDoor

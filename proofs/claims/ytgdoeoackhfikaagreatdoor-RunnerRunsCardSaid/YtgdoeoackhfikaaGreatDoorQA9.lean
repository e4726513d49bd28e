/-
  Parts of the proof of runnerSkips_holds: OpA, OpB, SchedA, SchedB, OpT, OpS, SchedP.
-/
import Derived.Test.YtgdoeoackhfikaaGreatDoorQA5
import Derived.Test.YtgdoeoackhfikaaGreatDoorQA6
import Derived.Test.YtgdoeoackhfikaaGreatDoorQA2
import Derived.Laws.MakeOwn
namespace Go.Proofs.YtgdoeoackhfikaaGreatDoor
open Go.RowKit Go.Proofs.YtgdoeoackhfikaaGreatDoorW.PrintWords
set_option maxRecDepth 100000
set_option linter.unusedSimpArgs false
set_option linter.unusedVariables false
def BeginAt (w : World) (F : Nat → Prop) (a : Nat) (x : ElV) (fv : Value) : Prop :=
 ∃ bc bs bv bp bi bw bb, F bc ∧ F bs ∧ F bv ∧ F bp ∧ F bi ∧ F bw ∧ F bb ∧
  fv = .func (.func 257) #[] #[.pointer (some ⟨bc, 0, none⟩), .pointer (some ⟨bs, 0, none⟩), .pointer (some ⟨bv, 0, none⟩), .pointer (some ⟨bp, 0, none⟩), .pointer (some ⟨bi, 0, none⟩), .pointer (some ⟨bw, 0, none⟩), .pointer (some ⟨bb, 0, none⟩)] ∧
  w.heap[bc]? = some (.cells #[.int .i64 x.c.nodes, .int .i64 x.c.slots, .int .i64 x.c.holders, .int .u32 x.c.tag] 32 (0, 0)) ∧
  w.heap[bs]? = some (.cells #[.int .i64 x.s.range, .int .i64 x.s.exp] 83 (0, 0)) ∧
  w.heap[bv]? = some (.cells #[.pointer (some ⟨a, 0, none⟩)] 359 (0, 0)) ∧
  w.heap[bp]? = some (.cells #[.bool x.push] 4 (0, 0)) ∧
  w.heap[bi]? = some (.cells #[.int .u32 x.i] 30 (0, 0)) ∧
  w.heap[bw]? = some (.cells #[.int .u64 x.wait] 33 (0, 0)) ∧
  w.heap[bb]? = some (.cells #[.int .i64 x.base] 3 (0, 0))
def ElV.cs (x : ElV) (pv fv : Value) : Array Value := #[pv, .int .i64 x.c.nodes, .int .i64 x.c.slots, .int .i64 x.c.holders, .int .u32 x.c.tag, .int .i64 x.s.range, .int .i64 x.s.exp, fv, .int .i64 x.place, .int .i64 x.ended]
def InnerAt (w : World) (F : Nat → Prop) (a : Nat) (x : ElV) (pv fv : Value) : Prop :=
 match x.v with
 | none => pv = .pointer none ∧ BeginAt w (fun k => F k ∧ k ≠ a) a x fv
 | some e => ∃ t, pv = .pointer (some ⟨t, 0, none⟩) ∧ EVAt w (fun k => F k ∧ k ≠ a) t e
structure ElAt (w : World) (F : Nat → Prop) (a : Nat) (x : ElV) : Prop where
 own : F a
 obj : ∃ pv fv, w.heap[a]? = some (.cells (x.cs pv fv) 376 (0, 0)) ∧ InnerAt w F a x pv fv
 right : x.c.right
 ri : 0 ≤ x.i ∧ x.i < 4294967296
 rb : 1 ≤ x.base ∧ x.base ≤ 64
 rw : 0 ≤ x.wait ∧ x.wait < 18446744073709551616
 rs : x.s.right x.c.slots
theorem BeginAt.kept {w W : World} {F F' : Nat → Prop} {a : Nat} {x : ElV} {fv : Value} (h : BeginAt w F a x fv) (hk : ∀ k o, F k → w.heap[k]? = some o → W.heap[k]? = some o) (hF : ∀ k, F k → F' k) : BeginAt W F' a x fv := by
 obtain ⟨bc, bs, bv, bp, bi, bw, bb, h1, h2, h3, h4, h5, h6, h7, h8, a1, a2, a3, a4, a5, a6, a7⟩ := h
 exact ⟨bc, bs, bv, bp, bi, bw, bb, hF _ h1, hF _ h2, hF _ h3, hF _ h4, hF _ h5, hF _ h6, hF _ h7, h8, hk _ _ h1 a1, hk _ _ h2 a2, hk _ _ h3 a3, hk _ _ h4 a4, hk _ _ h5 a5, hk _ _ h6 a6, hk _ _ h7 a7⟩
theorem ElAt.kept {w W : World} {F F' : Nat → Prop} {a : Nat} {x : ElV} (h : ElAt w F a x) (hk : ∀ k o, F k → w.heap[k]? = some o → W.heap[k]? = some o) (hF : ∀ k, F k → F' k) : ElAt W F' a x := by
 obtain ⟨pv, fv, ho, hn⟩ := h.obj
 refine ⟨hF _ h.own, ⟨pv, fv, hk _ _ h.own ho, ?_⟩, h.right, h.ri, h.rb, h.rw, h.rs⟩
 unfold InnerAt at *
 split
 ·rename_i e
  rw [e] at hn
  exact ⟨hn.1, hn.2.kept (fun k o h1 h2 => hk k o h1.1 h2) (fun k h1 => ⟨hF k h1.1, h1.2⟩)⟩
 ·rename_i z e
  rw [e] at hn
  obtain ⟨t, h1, h2⟩ := hn
  exact ⟨t, h1, h2.kept (fun k o h1 h2 => hk k o h1.1 h2) (fun k h1 => ⟨hF k h1.1, h1.2⟩)⟩
def PartAt (w : World) (F : Nat → Prop) (pv : Value) : Part → Prop
 | .at t => ∃ a, pv = .iface 322 (.pointer (some ⟨a, 0, none⟩)) ∧ TRAt w F a none t ∧ t.shelf.length ≤ 1000000
 | .ag t node => ∃ a, pv = .iface 358 (.pointer (some ⟨a, 0, none⟩)) ∧ TRAt w F a (some node) t ∧ 0 ≤ node ∧ node < 4294967296 ∧ t.shelf.length ≤ 1000000
 | .tt x => ∃ a, pv = .iface 324 (.pointer (some ⟨a, 0, none⟩)) ∧ TLAt w F a x ∧ x.nx.isTake = true
 | .tg x => ∃ a, pv = .iface 379 (.pointer (some ⟨a, 0, none⟩)) ∧ TLAt w F a x ∧ x.nx.isTake = false
 | .vis v => ∃ a, pv = .iface 359 (.pointer (some ⟨a, 0, none⟩)) ∧ ElAt w F a v
 | .acc a wr => pv = .iface 361 (.agg #[.int .i64 a, .bool wr])
theorem PartAt.kept {w W : World} {F F' : Nat → Prop} {pv : Value} {p : Part} (h : PartAt w F pv p) (hk : ∀ k o, F k → w.heap[k]? = some o → W.heap[k]? = some o) (hF : ∀ k, F k → F' k) : PartAt W F' pv p := by
 cases p with
 | «at» t => obtain ⟨a, h1, h2, h3⟩ := h; exact ⟨a, h1, h2.kept hk hF, h3⟩
 | ag t node => obtain ⟨a, h1, h2, h3⟩ := h; exact ⟨a, h1, h2.kept hk hF, h3⟩
 | tt x => obtain ⟨a, h1, h2, h3⟩ := h; exact ⟨a, h1, h2.kept hk hF, h3⟩
 | tg x => obtain ⟨a, h1, h2, h3⟩ := h; exact ⟨a, h1, h2.kept hk hF, h3⟩
 | vis v => obtain ⟨a, h1, h2⟩ := h; exact ⟨a, h1, h2.kept hk hF⟩
 | acc a wr => exact h
def OpS.cs (x : OpS) (sv pv : Value) : Array Value := #[.int .i64 x.c.l.nodes, .int .i64 x.c.l.slots, .int .i64 x.c.l.holders, .int .u32 x.c.l.tag, .int .i64 x.c.budget, .int .i64 x.c.base, .int .u64 x.c.wait, sv, .int .i64 x.pol.range, .int .i64 x.pol.exp, .bool x.push, .int .u64 x.v, .int .u32 x.i, .int .i64 x.failed, pv, .int .i64 x.st, .bool x.retry]
structure OpAt (w : World) (F : Nat → Prop) (o : Nat) (x : OpS) : Prop where
 own : F o
 obj : ∃ sv pv, ∃ P : Nat → Prop, w.heap[o]? = some (.cells (x.cs sv pv) 212 (0, 0)) ∧ ShelfAt w F sv x.shelf ∧ PartAt w P pv x.part ∧ (∀ k, P k → F k ∧ k ≠ o ∧ sv.ownBlock ≠ some k)
 right : x.c.right
 rwt : 0 ≤ x.c.wait ∧ x.c.wait < 18446744073709551616
 rv : 0 ≤ x.v ∧ x.v < 18446744073709551616
 ri : 0 ≤ x.i ∧ x.i < 4294967296
 rp : x.pol.right x.c.l.slots
 few : x.shelf.length ≤ 1000000
theorem OpAt.kept {w W : World} {F F' : Nat → Prop} {o : Nat} {x : OpS} (h : OpAt w F o x) (hk : ∀ k o, F k → w.heap[k]? = some o → W.heap[k]? = some o) (hF : ∀ k, F k → F' k) : OpAt W F' o x := by
 obtain ⟨sv, pv, P, h1, h2, h3, h4⟩ := h.obj
 exact ⟨hF _ h.own, ⟨sv, pv, P, hk _ _ h.own h1, h2.kept hk hF, h3.kept (fun k o hp ho => hk k o (h4 k hp).1 ho) (fun _ h => h), fun k hp => ⟨hF k (h4 k hp).1, (h4 k hp).2⟩⟩, h.right, h.rwt, h.rv, h.ri, h.rp, h.few⟩
def ECfg.v (c : ECfg) : Value := .agg #[.int .i64 c.l.nodes, .int .i64 c.l.slots, .int .i64 c.l.holders, .int .u32 c.l.tag, .int .i64 c.budget, .int .i64 c.base, .int .u64 c.wait]
theorem layoutCheck_f (c : LCfg) : G.layout_Check.f c.nodes c.slots c.holders c.tag = some (if c.right then 0 else 1) := by
 unfold G.layout_Check.f
 by_cases h : c.right
 ·rw [if_pos h]
  unfold LCfg.right at h
  repeat' split
  all_goals first | rfl | (exfalso; omega)
 ·rw [if_neg h]
  unfold LCfg.right at h
  repeat' split
  all_goals first | rfl | (exfalso; omega)
theorem ebstackCheck_f (c : ECfg) : G.ebstack_Check.f c.l.nodes c.l.slots c.l.holders c.l.tag c.budget c.base c.wait = some (if c.right then 0 else 1) := by
 unfold G.ebstack_Check.f
 rw [layoutCheck_f]
 show (if (if c.l.right then (0 : Int) else 1) = 0 then _ else _) = _
 by_cases hr : c.right
 ·rw [if_pos hr, if_pos hr.1, if_pos rfl]
  obtain ⟨_, h1, h2, h3, h4⟩ := hr
  repeat' split
  all_goals first | rfl | (exfalso; omega)
 ·rw [if_neg hr]
  by_cases h : c.l.right
  ·have h2 : ¬ (0 ≤ c.budget ∧ c.budget ≤ 16 ∧ 1 ≤ c.base ∧ c.base ≤ 64) := fun e => hr ⟨h, e⟩
   rw [if_pos h, if_pos rfl]
   repeat' split
   all_goals first | rfl | (exfalso; omega)
  ·rw [if_neg h, if_neg (by decide)]
theorem ebstack_Check (c : ECfg) (w : World) : Calls Tryz.prog 37 #[c.v] w fun e w' => e = .returned (.int .i64 (if c.right then 0 else 1)) ∧ Below w.heap.size w w' :=
 G.ebstack_Check.calls _ _ _ _ _ _ _ _ w (ebstackCheck_f c)
end Go.Proofs.YtgdoeoackhfikaaGreatDoor

namespace Go.Proofs.YtgdoeoackhfikaaGreatDoor
open Go.RowKit Go.Proofs.YtgdoeoackhfikaaGreatDoorW.PrintWords
set_option maxRecDepth 100000
set_option maxHeartbeats 4000000
set_option linter.unusedSimpArgs false
set_option linter.unusedVariables false
attribute [local go_sem] hs_other hs_alloc hs_falloc run_store_func run_makeFunc
attribute [local go_sem ↓] Go.wp_at_zero Go.wp_at_succ
theorem kbw {w W : World} (h : Kp (fun _ => False) w W) : Below w.heap.size w W := h.blw
def OpBegun (w : World) (c : ECfg) (xs : List Int) (pol : Pol) (push : Bool) (v : Int) (pv : Value) (e : Ending) (w' : World) : Prop :=
 ∃ (o : Nat) (sv : Value), e = .returned (.pointer (some ⟨o, 0, none⟩)) ∧ w.heap.size ≤ o ∧ o < w'.heap.size ∧ Kp (fun _ => False) w w' ∧
  w'.heap[o]? = some (.cells #[.int .i64 c.l.nodes, .int .i64 c.l.slots, .int .i64 c.l.holders, .int .u32 c.l.tag, .int .i64 c.budget, .int .i64 c.base, .int .u64 c.wait, sv, .int .i64 pol.range, .int .i64 pol.exp, .bool push, .int .u64 v, .int .u32 0, .int .i64 0, pv, .int .i64 0, .bool false] 212 (0, 0)) ∧
  ShelfAt w' (fun k => w.heap.size ≤ k ∧ k < w'.heap.size) sv xs
theorem clone_shelf (W : World) (base : Nat) (v : Value) (n : Nat) (xs : List Value) (hr : W.ownsRow base 30 1 v n xs) (h1 : ∀ u ∈ xs, u.oneCell' = true) (hl : n * 4 ≤ 140737488355328) :
  Calls Tryz.prog 73 #[v] W fun e w' => ∃ A' c', e = .returned (.slice A' n c') ∧ w'.ownsRow W.heap.size 30 1 (.slice A' n c') n xs ∧ Below W.heap.size W w' :=
 (clone_u32 W base v n xs hr h1 hl).mono fun e w' h => by
  obtain ⟨v', h2, h3, h4⟩ := h
  obtain ⟨A', c', rfl⟩ := row_slice h3
  exact ⟨A', c', h2, h3, h4⟩
theorem ebstack_begun (w : World) (c : ECfg) (hc : c.right) (F : Nat → Prop) (v : Value) (xs : List Int) (hs : ShelfAt w F v xs) (hl : xs.length ≤ 1000000) (pol : Pol) (hp : pol.right c.l.slots) (push : Bool) (val : Int) (pt : TypeId) (pp : Value) :
  Calls Tryz.prog 209 #[c.v, .agg #[v, .int .i64 pol.range, .int .i64 pol.exp], .bool push, .int .u64 val, .iface pt pp] w (OpBegun w c xs pol push val (.iface pt pp)) := by
 have hcl := fun W (hk : Kp (fun _ => False) w W) => clone_shelf W 0 v xs.length (nums .u32 xs) (hk.row hs.row (fun _ _ e => e)) (by simp [nums, Value.oneCell']) (by omega)
 have hck := fun W => ebstack_Check c W
 have hpr := fun W => policy_Right pol c.l.slots W
 rw [if_pos hc] at hck
 rw [decide_eq_true hp] at hpr
 obtain ⟨A, cc, rfl⟩ := row_slice hs.row
 have hrg := hs.range
 unfold ECfg.v at hck ⊢
 unfold Pol.v at hpr
 clear hs
 go_enter Tryz.func209, Tryz.ntmps209
 go_wp2_with fail
 refine wp_world ?_
 intro W hW
 have hKW : Kp (fun _ => False) w W := by rw [hW]; exact ((Kp.refl _ _).alloc _).alloc _
 have hO0 : W.heap[w.heap.size]? = some (.cells #[.int .i64 c.l.nodes, .int .i64 c.l.slots, .int .i64 c.l.holders, .int .u32 c.l.tag, .int .i64 c.budget, .int .i64 c.base, .int .u64 c.wait] 35 (0, 0)) := by rw [hW]; exact (hp_alloc _ _ _ (by simp)).trans (hp_new _ _ _ rfl)
 have hO1 : W.heap[w.heap.size + 1]? = some (.cells #[.slice A xs.length cc, .int .i64 pol.range, .int .i64 pol.exp] 85 (0, 0)) := by rw [hW]; exact hp_new _ _ _ (by simp)
 obtain ⟨q, _, lq⟩ := obj_cells hO0
 obtain ⟨r, _, lr⟩ := obj_cells hO1
 have a0 : W.cell? ⟨w.heap.size, 0, none⟩ = some (.int .i64 c.l.nodes) := q 0
 have a1 : W.cell? ⟨w.heap.size, 1, none⟩ = some (.int .i64 c.l.slots) := q 1
 have a2 : W.cell? ⟨w.heap.size, 2, none⟩ = some (.int .i64 c.l.holders) := q 2
 have a3 : W.cell? ⟨w.heap.size, 3, none⟩ = some (.int .u32 c.l.tag) := q 3
 have a4 : W.cell? ⟨w.heap.size, 4, none⟩ = some (.int .i64 c.budget) := q 4
 have a5 : W.cell? ⟨w.heap.size, 5, none⟩ = some (.int .i64 c.base) := q 5
 have a6 : W.cell? ⟨w.heap.size, 6, none⟩ = some (.int .u64 c.wait) := q 6
 have b0 : W.cell? ⟨w.heap.size + 1, 0, none⟩ = some (.slice A xs.length cc) := r 0
 have b1 : W.cell? ⟨w.heap.size + 1, 1, none⟩ = some (.int .i64 pol.range) := r 1
 have b2 : W.cell? ⟨w.heap.size + 1, 2, none⟩ = some (.int .i64 pol.exp) := r 2
 have hcl2 := hcl W.drew hKW.drew
 have HCL := Lib.hid hcl2
 have HRG := Lib.hid hrg
 clear hW hcl q r hcl2 hrg
 go_region_held3 (fun w' => w'.cell? ⟨w.heap.size, 0, none⟩ = some (.int .i64 c.l.nodes) ∧ w'.cell? ⟨w.heap.size, 1, none⟩ = some (.int .i64 c.l.slots) ∧ w'.cell? ⟨w.heap.size, 2, none⟩ = some (.int .i64 c.l.holders) ∧ w'.cell? ⟨w.heap.size, 3, none⟩ = some (.int .u32 c.l.tag) ∧ w'.cell? ⟨w.heap.size, 4, none⟩ = some (.int .i64 c.budget) ∧ w'.cell? ⟨w.heap.size, 5, none⟩ = some (.int .i64 c.base) ∧ w'.cell? ⟨w.heap.size, 6, none⟩ = some (.int .u64 c.wait) ∧ w'.cell? ⟨w.heap.size + 1, 0, none⟩ = some (.slice A xs.length cc) ∧ w'.cell? ⟨w.heap.size + 1, 1, none⟩ = some (.int .i64 pol.range) ∧ w'.cell? ⟨w.heap.size + 1, 2, none⟩ = some (.int .i64 pol.exp))
  (first | exact ⟨a0, a1, a2, a3, a4, a5, a6, b0, b1, b2⟩ | exact ⟨keep_cell hbw a0, keep_cell hbw a1, keep_cell hbw a2, keep_cell hbw a3, keep_cell hbw a4, keep_cell hbw a5, keep_cell hbw a6, keep_cell hbw b0, keep_cell hbw b1, keep_cell hbw b2⟩ | exact ⟨kc _ (keep_cell hbw a0), kc _ (keep_cell hbw a1), kc _ (keep_cell hbw a2), kc _ (keep_cell hbw a3), kc _ (keep_cell hbw a4), kc _ (keep_cell hbw a5), kc _ (keep_cell hbw a6), kc _ (keep_cell hbw b0), kc _ (keep_cell hbw b1), kc _ (keep_cell hbw b2)⟩)
  ((go_at_call 73; refine HCL.out.mono ?_; rintro e w1 ⟨A', c', rfl, hr1, hb1⟩; have hbw := undrew hb1))
 have hkw : Kp (fun _ => False) w w1 := hKW.also (Kp.nb hbw)
 refine any_world (p := fun W => Exit.then _ _ _ _ W) ?_
 intro W2 hW2
 have hk2 : Kp (fun _ => False) w1 W2 := by rw [hW2]; exact (Kp.refl _ _).alloc _
 have ho2 : W2.heap[w1.heap.size]? = some (.cells #[.int .i64 c.l.nodes, .int .i64 c.l.slots, .int .i64 c.l.holders, .int .u32 c.l.tag, .int .i64 c.budget, .int .i64 c.base, .int .u64 c.wait, .slice A' xs.length c', .int .i64 pol.range, .int .i64 pol.exp, .bool push, .int .u64 val, .int .u32 0, .int .i64 0, .iface pt pp, .int .i64 0, .bool false] 212 (0, 0)) := by rw [hW2]; exact hp_new _ _ _ rfl
 have d0 := (keep_cell (kbw hk2) (keep_cell hbw a0))
 have d1 := (keep_cell (kbw hk2) (keep_cell hbw a1))
 have d2 := (keep_cell (kbw hk2) (keep_cell hbw a2))
 have d3 := (keep_cell (kbw hk2) (keep_cell hbw a3))
 have d4 := (keep_cell (kbw hk2) (keep_cell hbw a4))
 have d5 := (keep_cell (kbw hk2) (keep_cell hbw a5))
 have d6 := (keep_cell (kbw hk2) (keep_cell hbw a6))
 have g0 := (keep_cell (kbw hk2) (keep_cell hbw b0))
 have g1 := (keep_cell (kbw hk2) (keep_cell hbw b1))
 have g2 := (keep_cell (kbw hk2) (keep_cell hbw b2))
 have hsz2 : w1.heap.size < W2.heap.size := by rw [hW2]; simp
 have HR1 := Lib.hid hr1
 clear hW2 a0 a1 a2 a3 a4 a5 a6 b0 b1 b2 hr1
 go_wp2_with fail
 refine (hck _).mono ?_
 rintro e w3 ⟨rfl, hb3⟩
 have i0 := keep_cell hb3 g0
 have i1 := keep_cell hb3 g1
 have i2 := keep_cell hb3 g2
 have j1 := keep_cell hb3 d1
 have hO3 := (Kp.nb hb3).heap ho2 (fun e => e)
 have hK3 := Kp.nb hb3
 clear d0 d1 d2 d3 d4 d5 d6 g0 g1 g2 ho2 hb3
 go_wp2_with fail
 refine (hpr _).mono ?_
 rintro e w4 ⟨rfl, hb4⟩
 have hO4 := (Kp.nb hb4).heap hO3 (fun e => e)
 have hK4 := Kp.nb hb4
 have HO4 := Lib.hid hO4
 clear hO3 hb4 hO4 i0 i1 i2 j1
 go_wp2
 go_ret
 have hkz := (hk2.also hK3).also hK4
 have hsz := hkz.size
 have hs0 := hkw.size
 have hs3 := (hK3.also hK4).size
 have hr4 : w4.ownsRow w.heap.size 30 1 (.slice A' xs.length c') xs.length (nums .u32 xs) := row_base (hkz.row HR1.out (fun _ _ e => e)) (by have := hKW.size; exact this)
 exact ⟨w1.heap.size, _, rfl, hs0, by omega, hkw.also hkz, HO4.out, ⟨row_base hr4 (Nat.zero_le _), fun k hk => hr4.lt k hk, HRG.out⟩⟩
theorem OpBegun.op {w w0 w' : World} {c : ECfg} {xs : List Int} {pol : Pol} {push : Bool} {v : Int} {pv : Value} {e : Ending} (h : OpBegun w0 c xs pol push v pv e w') (hc : c.right) (hp : pol.right c.l.slots) (hl : xs.length ≤ 1000000) (hw : 0 ≤ c.wait ∧ c.wait < 18446744073709551616) (hv : 0 ≤ v ∧ v < 18446744073709551616)
  (hk : Kp (fun _ => False) w w0) (p : Part) (hpart : PartAt w0 (fun k => w.heap.size ≤ k ∧ k < w0.heap.size) pv p) :
  ∃ o : Nat, e = .returned (.pointer (some ⟨o, 0, none⟩)) ∧ w.heap.size ≤ o ∧ Kp (fun _ => False) w w' ∧ OpAt w' (fun k => w.heap.size ≤ k ∧ k < w'.heap.size) o ⟨c, xs, pol, push, v, 0, 0, p, 0, false⟩ := by
 obtain ⟨o, sv, h1, h2, h3, h4, h5, h6⟩ := h
 have s0 := hk.size
 have s1 := h4.size
 refine ⟨o, h1, by omega, hk.also h4, ⟨by omega, by omega⟩, ⟨sv, pv, fun k => w.heap.size ≤ k ∧ k < w0.heap.size, h5, ⟨h6.row, fun k hk' => ⟨by have := (h6.own k hk').1; omega, (h6.own k hk').2⟩, h6.range⟩, hpart.kept (fun k o _ ho => h4.heap ho (fun e => e)) (fun _ h => h), fun k hk' => ⟨⟨hk'.1, by omega⟩, by omega, fun e => ?_⟩⟩, hc, hw, hv, by simp, hp, hl⟩
 have := (h6.own k e).1
 omega
theorem ebstack_NewPop (w : World) (c : ECfg) (hc : c.right) (hw : 0 ≤ c.wait ∧ c.wait < 18446744073709551616) (F : Nat → Prop) (v : Value) (xs : List Int) (hs : ShelfAt w F v xs) (hl : xs.length ≤ 1000000) (pol : Pol) (hp : pol.right c.l.slots) :
  Calls Tryz.prog 208 #[c.v, .agg #[v, .int .i64 pol.range, .int .i64 pol.exp]] w fun e w' => ∃ o : Nat, e = .returned (.pointer (some ⟨o, 0, none⟩)) ∧ w.heap.size ≤ o ∧ Kp (fun _ => False) w w' ∧ OpAt w' (fun k => w.heap.size ≤ k ∧ k < w'.heap.size) o (newPop c xs pol) := by
 have e0 : newPop c xs pol = ⟨c, xs, pol, false, 0, 0, 0, .tt (newTake c.l 0), 0, false⟩ := by unfold newPop; rw [if_pos hp]
 rw [e0]
 have hbe := fun W (hk : Kp (fun _ => False) w W) pt pp => ebstack_begun W c hc F v xs (hs.kept (fun k o _ ho => hk.heap ho (fun e => e)) (fun _ h => h)) hl pol hp false 0 pt pp
 have hnt := fun W => taglist_NewTake c.l hc.1 0 W
 obtain ⟨A, cc, rfl⟩ := row_slice hs.row
 unfold LCfg.v at hnt
 unfold ECfg.v at hbe ⊢
 clear hs
 go_enter Tryz.func208, Tryz.ntmps208
 go_wp2_with fail
 refine wp_world ?_
 intro W hW
 have hKW : Kp (fun _ => False) w W := by rw [hW]; exact ((Kp.refl _ _).alloc _).alloc _
 have hO0 : W.heap[w.heap.size]? = some (.cells #[.int .i64 c.l.nodes, .int .i64 c.l.slots, .int .i64 c.l.holders, .int .u32 c.l.tag, .int .i64 c.budget, .int .i64 c.base, .int .u64 c.wait] 35 (0, 0)) := by rw [hW]; exact (hp_alloc _ _ _ (by simp)).trans (hp_new _ _ _ rfl)
 have hO1 : W.heap[w.heap.size + 1]? = some (.cells #[.slice A xs.length cc, .int .i64 pol.range, .int .i64 pol.exp] 85 (0, 0)) := by rw [hW]; exact hp_new _ _ _ (by simp)
 obtain ⟨q, _, lq⟩ := obj_cells hO0
 obtain ⟨r, _, lr⟩ := obj_cells hO1
 have a0 : W.cell? ⟨w.heap.size, 0, none⟩ = some (.int .i64 c.l.nodes) := q 0
 have a1 : W.cell? ⟨w.heap.size, 1, none⟩ = some (.int .i64 c.l.slots) := q 1
 have a2 : W.cell? ⟨w.heap.size, 2, none⟩ = some (.int .i64 c.l.holders) := q 2
 have a3 : W.cell? ⟨w.heap.size, 3, none⟩ = some (.int .u32 c.l.tag) := q 3
 have a4 : W.cell? ⟨w.heap.size, 4, none⟩ = some (.int .i64 c.budget) := q 4
 have a5 : W.cell? ⟨w.heap.size, 5, none⟩ = some (.int .i64 c.base) := q 5
 have a6 : W.cell? ⟨w.heap.size, 6, none⟩ = some (.int .u64 c.wait) := q 6
 have b0 : W.cell? ⟨w.heap.size + 1, 0, none⟩ = some (.slice A xs.length cc) := r 0
 have b1 : W.cell? ⟨w.heap.size + 1, 1, none⟩ = some (.int .i64 pol.range) := r 1
 have b2 : W.cell? ⟨w.heap.size + 1, 2, none⟩ = some (.int .i64 pol.exp) := r 2
 have HBE := Lib.hid hbe
 have hwsz : w.heap.size ≤ W.heap.size := hKW.size
 clear hW q r hbe
 go_region_held3 (fun w' => w'.cell? ⟨w.heap.size, 0, none⟩ = some (.int .i64 c.l.nodes) ∧ w'.cell? ⟨w.heap.size, 1, none⟩ = some (.int .i64 c.l.slots) ∧ w'.cell? ⟨w.heap.size, 2, none⟩ = some (.int .i64 c.l.holders) ∧ w'.cell? ⟨w.heap.size, 3, none⟩ = some (.int .u32 c.l.tag) ∧ w'.cell? ⟨w.heap.size, 4, none⟩ = some (.int .i64 c.budget) ∧ w'.cell? ⟨w.heap.size, 5, none⟩ = some (.int .i64 c.base) ∧ w'.cell? ⟨w.heap.size, 6, none⟩ = some (.int .u64 c.wait) ∧ w'.cell? ⟨w.heap.size + 1, 0, none⟩ = some (.slice A xs.length cc) ∧ w'.cell? ⟨w.heap.size + 1, 1, none⟩ = some (.int .i64 pol.range) ∧ w'.cell? ⟨w.heap.size + 1, 2, none⟩ = some (.int .i64 pol.exp))
  (first | exact ⟨a0, a1, a2, a3, a4, a5, a6, b0, b1, b2⟩ | exact ⟨hkA.cell a0 (fun e => e), hkA.cell a1 (fun e => e), hkA.cell a2 (fun e => e), hkA.cell a3 (fun e => e), hkA.cell a4 (fun e => e), hkA.cell a5 (fun e => e), hkA.cell a6 (fun e => e), hkA.cell b0 (fun e => e), hkA.cell b1 (fun e => e), hkA.cell b2 (fun e => e)⟩ | exact ⟨h4.cell (hkA.cell a0 (fun e => e)) (fun e => e), h4.cell (hkA.cell a1 (fun e => e)) (fun e => e), h4.cell (hkA.cell a2 (fun e => e)) (fun e => e), h4.cell (hkA.cell a3 (fun e => e)) (fun e => e), h4.cell (hkA.cell a4 (fun e => e)) (fun e => e), h4.cell (hkA.cell a5 (fun e => e)) (fun e => e), h4.cell (hkA.cell a6 (fun e => e)) (fun e => e), h4.cell (hkA.cell b0 (fun e => e)) (fun e => e), h4.cell (hkA.cell b1 (fun e => e)) (fun e => e), h4.cell (hkA.cell b2 (fun e => e)) (fun e => e)⟩)
  ((first
   | (go_at_call 211; refine (hnt W.drew).mono ?_; rintro e w1 ⟨t, rfl, ht, hk1, hx⟩; have hkA := Kp.undrew hk1)
   | (go_at_call 209; refine (HBE.out _ (hKW.also hkA) _ _).mono ?_; rintro e w2 ⟨o, sv, rfl, h2, h3, h4, h5, h6⟩)))
 go_wp2
 go_ret
 exact OpBegun.op ⟨o, sv, rfl, h2, h3, h4, h5, h6⟩ hc hp hl hw (by simp) (hKW.also hkA) _ ⟨t, rfl, hx.kept (fun _ _ _ h => h) (fun k hk => ⟨by have : W.heap.size ≤ k := hk.1; omega, hk.2⟩), rfl⟩
theorem ebstack_NewPush (w : World) (c : ECfg) (hc : c.right) (hw : 0 ≤ c.wait ∧ c.wait < 18446744073709551616) (F : Nat → Prop) (v : Value) (xs : List Int) (hs : ShelfAt w F v xs) (hl : xs.length ≤ 1000000) (pol : Pol) (hp : pol.right c.l.slots) (val : Int) (hv : 0 ≤ val ∧ val < 18446744073709551616) :
  Calls Tryz.prog 207 #[c.v, .agg #[v, .int .i64 pol.range, .int .i64 pol.exp], .int .u64 val] w fun e w' => ∃ o : Nat, e = .returned (.pointer (some ⟨o, 0, none⟩)) ∧ w.heap.size ≤ o ∧ Kp (fun _ => False) w w' ∧ OpAt w' (fun k => w.heap.size ≤ k ∧ k < w'.heap.size) o (newPush c xs pol val) := by
 have e0 : newPush c xs pol val = ⟨c, xs, pol, true, val, 0, 0, .at (newTries c.budget xs (newTake c.l 1)), 0, false⟩ := by unfold newPush; rw [if_pos hp]
 rw [e0]
 have hbe := fun W (hk : Kp (fun _ => False) w W) pt pp => ebstack_begun W c hc F v xs (hs.kept (fun k o _ ho => hk.heap ho (fun e => e)) (fun _ h => h)) hl pol hp true val pt pp
 have hnt := fun W (hk : Kp (fun _ => False) w W) => arena_NewTake W c.l hc.1 F c.budget (by have := hc.2; omega) v xs (hs.kept (fun k o _ ho => hk.heap ho (fun e => e)) (fun _ h => h)) hl
 obtain ⟨A, cc, rfl⟩ := row_slice hs.row
 unfold LCfg.v at hnt
 unfold ECfg.v at hbe ⊢
 clear hs
 go_enter Tryz.func207, Tryz.ntmps207
 go_wp2_with fail
 refine wp_world ?_
 intro W hW
 have hKW : Kp (fun _ => False) w W := by rw [hW]; exact ((Kp.refl _ _).alloc _).alloc _
 have hO0 : W.heap[w.heap.size]? = some (.cells #[.int .i64 c.l.nodes, .int .i64 c.l.slots, .int .i64 c.l.holders, .int .u32 c.l.tag, .int .i64 c.budget, .int .i64 c.base, .int .u64 c.wait] 35 (0, 0)) := by rw [hW]; exact (hp_alloc _ _ _ (by simp)).trans (hp_new _ _ _ rfl)
 have hO1 : W.heap[w.heap.size + 1]? = some (.cells #[.slice A xs.length cc, .int .i64 pol.range, .int .i64 pol.exp] 85 (0, 0)) := by rw [hW]; exact hp_new _ _ _ (by simp)
 obtain ⟨q, _, lq⟩ := obj_cells hO0
 obtain ⟨r, _, lr⟩ := obj_cells hO1
 have a0 : W.cell? ⟨w.heap.size, 0, none⟩ = some (.int .i64 c.l.nodes) := q 0
 have a1 : W.cell? ⟨w.heap.size, 1, none⟩ = some (.int .i64 c.l.slots) := q 1
 have a2 : W.cell? ⟨w.heap.size, 2, none⟩ = some (.int .i64 c.l.holders) := q 2
 have a3 : W.cell? ⟨w.heap.size, 3, none⟩ = some (.int .u32 c.l.tag) := q 3
 have a4 : W.cell? ⟨w.heap.size, 4, none⟩ = some (.int .i64 c.budget) := q 4
 have a5 : W.cell? ⟨w.heap.size, 5, none⟩ = some (.int .i64 c.base) := q 5
 have a6 : W.cell? ⟨w.heap.size, 6, none⟩ = some (.int .u64 c.wait) := q 6
 have b0 : W.cell? ⟨w.heap.size + 1, 0, none⟩ = some (.slice A xs.length cc) := r 0
 have b1 : W.cell? ⟨w.heap.size + 1, 1, none⟩ = some (.int .i64 pol.range) := r 1
 have b2 : W.cell? ⟨w.heap.size + 1, 2, none⟩ = some (.int .i64 pol.exp) := r 2
 have HBE := Lib.hid hbe
 have hwsz : w.heap.size ≤ W.heap.size := hKW.size
 clear hW q r hbe
 go_region_held3 (fun w' => w'.cell? ⟨w.heap.size, 0, none⟩ = some (.int .i64 c.l.nodes) ∧ w'.cell? ⟨w.heap.size, 1, none⟩ = some (.int .i64 c.l.slots) ∧ w'.cell? ⟨w.heap.size, 2, none⟩ = some (.int .i64 c.l.holders) ∧ w'.cell? ⟨w.heap.size, 3, none⟩ = some (.int .u32 c.l.tag) ∧ w'.cell? ⟨w.heap.size, 4, none⟩ = some (.int .i64 c.budget) ∧ w'.cell? ⟨w.heap.size, 5, none⟩ = some (.int .i64 c.base) ∧ w'.cell? ⟨w.heap.size, 6, none⟩ = some (.int .u64 c.wait) ∧ w'.cell? ⟨w.heap.size + 1, 0, none⟩ = some (.slice A xs.length cc) ∧ w'.cell? ⟨w.heap.size + 1, 1, none⟩ = some (.int .i64 pol.range) ∧ w'.cell? ⟨w.heap.size + 1, 2, none⟩ = some (.int .i64 pol.exp))
  (first | exact ⟨a0, a1, a2, a3, a4, a5, a6, b0, b1, b2⟩ | exact ⟨hkA.cell a0 (fun e => e), hkA.cell a1 (fun e => e), hkA.cell a2 (fun e => e), hkA.cell a3 (fun e => e), hkA.cell a4 (fun e => e), hkA.cell a5 (fun e => e), hkA.cell a6 (fun e => e), hkA.cell b0 (fun e => e), hkA.cell b1 (fun e => e), hkA.cell b2 (fun e => e)⟩ | exact ⟨h4.cell (hkA.cell a0 (fun e => e)) (fun e => e), h4.cell (hkA.cell a1 (fun e => e)) (fun e => e), h4.cell (hkA.cell a2 (fun e => e)) (fun e => e), h4.cell (hkA.cell a3 (fun e => e)) (fun e => e), h4.cell (hkA.cell a4 (fun e => e)) (fun e => e), h4.cell (hkA.cell a5 (fun e => e)) (fun e => e), h4.cell (hkA.cell a6 (fun e => e)) (fun e => e), h4.cell (hkA.cell b0 (fun e => e)) (fun e => e), h4.cell (hkA.cell b1 (fun e => e)) (fun e => e), h4.cell (hkA.cell b2 (fun e => e)) (fun e => e)⟩)
  ((first
   | (go_at_call 210; refine (hnt W.drew hKW.drew).mono ?_; rintro e w1 ⟨t, rfl, ht, hk1, hx⟩; have hkA := Kp.undrew hk1)
   | (go_at_call 209; refine (HBE.out _ (hKW.also hkA) _ _).mono ?_; rintro e w2 ⟨o, sv, rfl, h2, h3, h4, h5, h6⟩)))
 go_wp2
 go_ret
 exact OpBegun.op ⟨o, sv, rfl, h2, h3, h4, h5, h6⟩ hc hp hl hw hv (hKW.also hkA) _ ⟨t, rfl, hx.kept (fun _ _ _ h => h) (fun k hk => ⟨by have : W.heap.size ≤ k := hk.1; omega, hk.2⟩), hl⟩
end Go.Proofs.YtgdoeoackhfikaaGreatDoor

namespace Go.Proofs.YtgdoeoackhfikaaGreatDoor
set_option linter.unusedVariables false
set_option linter.unusedSimpArgs false
open Go.RowKit
set_option maxRecDepth 100000
def SchedC (w : World) (s m r g n : Nat) (picks : Int) : Prop := w.heap[s]? = some (.cells #[.pointer (some ⟨m, 0, none⟩), .pointer (some ⟨r, 0, none⟩), .slice (some ⟨g, 0, none⟩) n n, .int .i64 picks] 136 (0, 0))
theorem sched_there (w : World) (s m r g n : Nat) (picks t : Int) (hs : SchedC w s m r g n picks) :
  Calls Tryz.prog 55 #[.pointer (some ⟨s, 0, none⟩), .int .i64 t] w fun e w' => e = .returned (.bool (decide (0 ≤ t ∧ t < n))) ∧ w' = w := by
 have c2 : w.cell? ⟨s, 2, none⟩ = some (.slice (some ⟨g, 0, none⟩) n n) := by rw [Lib.cell_of_heap hs]; rfl
 by_cases h0 : t ≥ 0
 ·go_enter Tryz.func55, Tryz.ntmps55
  go_wp2
  all_goals go_ret
  all_goals refine ⟨?_, rfl⟩
  all_goals congr 2
  all_goals simp
  all_goals omega
 ·go_enter Tryz.func55, Tryz.ntmps55
  go_wp2
  all_goals go_ret
  all_goals refine ⟨?_, rfl⟩
  all_goals congr 2
  all_goals simp
  all_goals omega
theorem sched_Busy_nil (w : World) (s m r g n : Nat) (picks : Int) (t : Nat) (hs : SchedC w s m r g n picks) (ht : t < n) (hc : w.cell? ⟨g, t, none⟩ = some .nilIface) :
  Calls Tryz.prog 27 #[.pointer (some ⟨s, 0, none⟩), .int .i64 t] w fun e w' => e = .returned (.bool false) ∧ w' = w := by
 have c2 : w.cell? ⟨s, 2, none⟩ = some (.slice (some ⟨g, 0, none⟩) n n) := by rw [Lib.cell_of_heap hs]; rfl
 have hd : decide (0 ≤ (t : Int) ∧ (t : Int) < (n : Int)) = true := decide_eq_true (by omega)
 have ht' : (t : Int) < (n : Int) := by omega
 go_enter Tryz.func27, Tryz.ntmps27
 go_wp2_with fail
 refine (sched_there w s m r g n picks t hs).mono ?_
 rintro e w' ⟨rfl, rfl⟩
 rw [hd]
 go_wp2
 go_ret
 exact ⟨rfl, rfl⟩
theorem sched_Busy_has (w : World) (s m r g n : Nat) (picks : Int) (t : Nat) (ty : TypeId) (v : Value) (hs : SchedC w s m r g n picks) (ht : t < n) (hc : w.cell? ⟨g, t, none⟩ = some (.iface ty v)) :
  Calls Tryz.prog 27 #[.pointer (some ⟨s, 0, none⟩), .int .i64 t] w fun e w' => e = .returned (.bool true) ∧ w' = w := by
 have c2 : w.cell? ⟨s, 2, none⟩ = some (.slice (some ⟨g, 0, none⟩) n n) := by rw [Lib.cell_of_heap hs]; rfl
 have hd : decide (0 ≤ (t : Int) ∧ (t : Int) < (n : Int)) = true := decide_eq_true (by omega)
 have ht' : (t : Int) < (n : Int) := by omega
 go_enter Tryz.func27, Tryz.ntmps27
 go_wp2_with fail
 refine (sched_there w s m r g n picks t hs).mono ?_
 rintro e w' ⟨rfl, rfl⟩
 rw [hd]
 go_wp2
 go_ret
 exact ⟨rfl, rfl⟩
theorem sched_Begin_ok (w : World) (s m r g n : Nat) (picks : Int) (t : Nat) (ty : TypeId) (v : Value) (hs : SchedC w s m r g n picks) (ht : t < n) (hc : w.cell? ⟨g, t, none⟩ = some .nilIface) (hf : w.frozen? ⟨g, t, none⟩ = false) :
  Calls Tryz.prog 86 #[.pointer (some ⟨s, 0, none⟩), .int .i64 t, .iface ty v] w fun e w' => e = .returned (.int .i64 0) ∧ w' = w.setCell ⟨g, t, none⟩ (.iface ty v) := by
 have c2 : w.cell? ⟨s, 2, none⟩ = some (.slice (some ⟨g, 0, none⟩) n n) := by rw [Lib.cell_of_heap hs]; rfl
 have hd : decide (0 ≤ (t : Int) ∧ (t : Int) < (n : Int)) = true := decide_eq_true (by omega)
 have ht' : (t : Int) < (n : Int) := by omega
 go_enter Tryz.func86, Tryz.ntmps86
 go_wp2_with fail
 refine (sched_there w s m r g n picks t hs).mono ?_
 rintro e w' ⟨rfl, rfl⟩
 rw [hd]
 go_wp2_with fail
 refine (sched_Busy_nil _ s m r g n picks t hs ht hc).mono ?_
 rintro e w' ⟨rfl, rfl⟩
 go_wp2
 go_ret
 exact ⟨rfl, rfl⟩
end Go.Proofs.YtgdoeoackhfikaaGreatDoor

namespace Go.Proofs.YtgdoeoackhfikaaGreatDoor
open Go.RowKit Go.Proofs.YtgdoeoackhfikaaGreatDoorW.PrintWords
set_option maxRecDepth 100000
set_option maxHeartbeats 2000000
set_option linter.unusedSimpArgs false
set_option linter.unusedVariables false
attribute [local go_sem] hs_other hs_alloc hs_falloc
attribute [local go_sem ↓] Go.wp_at_zero Go.wp_at_succ
theorem made_one (z : Value) (n : Nat) : madeCells #[z] n = (List.replicate n z).toArray := by
 apply Array.ext
 ·simp [madeCells]
 ·intro i h1 h2
  simp [madeCells, Nat.mod_one]
theorem run_made {P : Program} (t e : TypeId) (i : TypeInfo) (z : Value) (ht : P.underlying t = some (.slice e)) (hi : P.info? e = some i) (hz : i.zero = some z) (h1 : i.size = 1) (hc : z.cells = #[z]) (n : Nat) (hb : i.bytes ≤ 1000) (hn : n ≤ 1000) (w : World) :
  (Instr.makeSlice t (.int .i64 n) (.int .i64 n)).run P w = .ok (.slice (some ⟨w.heap.size, 0, none⟩) n n) (w.alloc (.cells (List.replicate n z).toArray e)) := by
 have hle : (i.bytes : Int) * (n : Int) ≤ 1000 * 1000 := by
  have : i.bytes * n ≤ 1000 * 1000 := Nat.mul_le_mul hb hn
  omega
 have := run_make (P := P) w t e i z ht hi hz .i64 .i64 n n (by omega) (Int.le_refl _) (by omega) (by omega)
 rw [this, hc, h1, made_one]
 simp
theorem info_mach : (Tryz.prog.info? 149).map (fun i => (i.zero, i.size, i.bytes)) = some (some .nilIface, 1, 16) := by kernel_rfl
def SchedNew (w : World) (xs : List Int) (n : Nat) (s : Nat) (w' : World) : Prop :=
 ∃ (b : MB) (q g : Nat), SchedC w' s b.m q g n 0 ∧ MemAt w' b ⟨xs, []⟩ ∧ SrcAt w' q (.slice none 0 0) ⟨0, []⟩ ∧ w'.heap[g]? = some (.cells (List.replicate n Value.nilIface).toArray 149 (0, 0))
  ∧ w.heap.size ≤ s ∧ (∀ k, b.has k → w.heap.size ≤ k) ∧ w.heap.size ≤ q ∧ w.heap.size ≤ g ∧ Kp (fun _ => False) w w'
theorem sched_New (w : World) (v : Value) (xs : List Int) (hr : w.ownsRow 0 33 1 v xs.length (nums .u64 xs)) (h0 : 0 < xs.length) (hl : xs.length ≤ 1024) (hx : ∀ z ∈ xs, 0 ≤ z ∧ z < 18446744073709551616) (n : Nat) (hn : 1 ≤ n ∧ n ≤ 8) :
  Calls Tryz.prog 82 #[v, .int .i64 n] w fun e w' => ∃ s : Nat, e = .returned (.tuple #[.pointer (some ⟨s, 0, none⟩), .int .i64 0]) ∧ SchedNew w xs n s w' := by
 have hcl := mem_New w v xs hr h0 hl hx
 obtain ⟨A, cc, rfl⟩ := row_slice hr
 obtain ⟨i0, hi, hz0, hz1, hz2⟩ := info_parts info_mach
 have hmk : ∀ W, (Instr.makeSlice 134 (.int .i64 (n : Int)) (.int .i64 (n : Int))).run Tryz.prog W = .ok (.slice (some ⟨W.heap.size, 0, none⟩) n n) (W.alloc (.cells (List.replicate n Value.nilIface).toArray 149)) :=
  fun W => run_made _ _ i0 _ Tryz.underlying134 hi hz0 hz1 rfl n (by omega) (by omega) W
 have hd1 : decide ((n : Int) < 1) = false := decide_eq_false (by omega)
 have hd2 : decide (8 < (n : Int)) = false := decide_eq_false (by omega)
 clear hr hx hi hz0 hz1 hz2
 go_enter Tryz.func82, Tryz.ntmps82
 go_wp2_with fail
 refine hcl.mono ?_
 rintro e w1 ⟨b, rfl, hk1, hb1, hm1⟩
 go_wp2_with fail
 go_region_held3 (fun w' => True) (first | exact trivial)
  ((first
   | (go_at_call 106; refine (source_New _).mono ?_; rintro e w2 ⟨rfl, hk2, hl2, hs2⟩)))
 ·go_wp2
  go_ret2
  have hk2' : Kp (fun _ => False) w1 w2 := hk2.undrew
  have hs := hk1.size
  have hs' := hk2'.size
  have hl2' : w1.heap.size < w2.heap.size := hl2
  have hkA : Kp (fun _ => False) w2 ((w2.alloc (.cells (Array.replicate n Value.nilIface) 149)).alloc (.cells #[.pointer (some ⟨b.m, 0, none⟩), .pointer (some ⟨w1.heap.size, 0, none⟩), .slice (some ⟨w2.heap.size, 0, none⟩) n n, .int .i64 0] 136)) := ((Kp.refl _ _).alloc _).alloc _
  refine ⟨w2.heap.size + 1, rfl, b, w1.heap.size, w2.heap.size, hp_new _ _ _ (by simp), (hm1.same hk2').same hkA, hs2.kept hkA (fun _ _ e => e), (hp_alloc _ _ _ (by simp)).trans ((hp_new _ _ _ rfl).trans (by simp)), by omega, fun k hk => hb1 k hk, by omega, by omega, (hk1.also hk2').also hkA⟩
 ·go_wp2
  go_ret2
  have hk0 : Kp (fun _ => False) w1 (w1.alloc (.cells (Array.replicate n Value.nilIface) 149)) := (Kp.refl _ _).alloc _
  have hk2' : Kp (fun _ => False) (w1.alloc (.cells (Array.replicate n Value.nilIface) 149)) w2 := hk2.undrew
  have hs := hk1.size
  have hs' := hk2'.size
  have hl2' : w1.heap.size + 1 < w2.heap.size := by have := hl2; simpa using this
  have hkA : Kp (fun _ => False) w2 (w2.alloc (.cells #[.pointer (some ⟨b.m, 0, none⟩), .pointer (some ⟨w1.heap.size + 1, 0, none⟩), .slice (some ⟨w1.heap.size, 0, none⟩) n n, .int .i64 0] 136)) := (Kp.refl _ _).alloc _
  have hs2' : SrcAt w2 (w1.heap.size + 1) (.slice none 0 0) ⟨0, []⟩ := by have := hs2; simpa using this
  refine ⟨w2.heap.size, rfl, b, w1.heap.size + 1, w1.heap.size, hp_new _ _ _ rfl, ((hm1.same hk0).same hk2').same hkA, hs2'.kept hkA (fun _ _ e => e), hkA.heap (hk2'.heap ((hp_new _ _ _ rfl).trans (by simp)) (fun e => e)) (fun e => e), by omega, fun k hk => hb1 k hk, by omega, by omega, ((hk1.also hk0).also hk2').also hkA⟩
theorem sched_Mem (w : World) (s m r g n : Nat) (picks : Int) (hs : SchedC w s m r g n picks) :
  Calls Tryz.prog 24 #[.pointer (some ⟨s, 0, none⟩)] w fun e w' => e = .returned (.pointer (some ⟨m, 0, none⟩)) ∧ w' = w := by
 obtain ⟨q, _, _⟩ := obj_cells hs
 have c0 : w.cell? ⟨s, 0, none⟩ = some (.pointer (some ⟨m, 0, none⟩)) := q 0
 clear q
 go_enter Tryz.func24, Tryz.ntmps24
 go_wp2
 go_ret
 exact ⟨rfl, rfl⟩
theorem sched_Source (w : World) (s m r g n : Nat) (picks : Int) (hs : SchedC w s m r g n picks) :
  Calls Tryz.prog 16 #[.pointer (some ⟨s, 0, none⟩)] w fun e w' => e = .returned (.pointer (some ⟨r, 0, none⟩)) ∧ w' = w := by
 obtain ⟨q, _, _⟩ := obj_cells hs
 have c0 : w.cell? ⟨s, 1, none⟩ = some (.pointer (some ⟨r, 0, none⟩)) := q 1
 clear q
 go_enter Tryz.func16, Tryz.ntmps16
 go_wp2
 go_ret
 exact ⟨rfl, rfl⟩
theorem sched_Picks (w : World) (s m r g n : Nat) (picks : Int) (hs : SchedC w s m r g n picks) :
  Calls Tryz.prog 29 #[.pointer (some ⟨s, 0, none⟩)] w fun e w' => e = .returned (.int .i64 picks) ∧ w' = w := by
 obtain ⟨q, _, _⟩ := obj_cells hs
 have c0 : w.cell? ⟨s, 3, none⟩ = some (.int .i64 picks) := q 3
 clear q
 go_enter Tryz.func29, Tryz.ntmps29
 go_wp2
 go_ret
 exact ⟨rfl, rfl⟩
theorem sched_Tick (w : World) (s m r g n : Nat) (picks now : Int) (ds : Value) (hs : SchedC w s m r g n picks) (hr : w.heap[r]? = some (.cells #[.int .u64 now, ds] 138 (0, 0))) (h0 : 0 ≤ now ∧ now < 18446744073709551616) (t : Int) (ht : 0 ≤ t ∧ t < 18446744073709551616) :
  Calls Tryz.prog 44 #[.pointer (some ⟨s, 0, none⟩), .int .u64 t] w fun e w' => e = .returned (.tuple #[]) ∧ w' = w.setCell ⟨r, 0, none⟩ (.int .u64 (later now t)) := by
 obtain ⟨q, _, _⟩ := obj_cells hs
 have c0 : w.cell? ⟨s, 1, none⟩ = some (.pointer (some ⟨r, 0, none⟩)) := q 1
 clear q
 go_enter Tryz.func44, Tryz.ntmps44
 go_wp2_with fail
 refine (source_Tick r now t ds _ hr h0 ht).mono ?_
 rintro e w' ⟨rfl, rfl⟩
 go_wp2
 go_end0
 exact ⟨rfl, rfl⟩
theorem sched_Draw (w : World) (s m r g n : Nat) (picks : Int) (hs : SchedC w s m r g n picks) (dv : Value) (x : SrcS) (h : SrcAt w r dv x) (hl : x.draws.length ≤ 1000000000) (d : Int) (hd : 0 ≤ d ∧ d < 64) :
  Calls Tryz.prog 45 #[.pointer (some ⟨s, 0, none⟩), .int .u64 d] w fun e w' => e = .returned (.int .i64 0) ∧ SrcPost w r dv { x with draws := x.draws ++ [d] } w' := by
 obtain ⟨q, _, _⟩ := obj_cells hs
 have c0 : w.cell? ⟨s, 1, none⟩ = some (.pointer (some ⟨r, 0, none⟩)) := q 1
 clear q
 go_enter Tryz.func45, Tryz.ntmps45
 go_wp2_with fail
 refine (source_Add _ r dv x h hl d hd).mono ?_
 rintro e w' ⟨rfl, hp⟩
 go_wp2
 go_ret
 exact ⟨rfl, hp⟩
theorem sched_Draw_no (w : World) (s m r g n : Nat) (picks : Int) (hs : SchedC w s m r g n picks) (d : Int) (hd : 64 ≤ d) :
  Calls Tryz.prog 45 #[.pointer (some ⟨s, 0, none⟩), .int .u64 d] w fun e w' => e = .returned (.int .i64 1) ∧ w' = w := by
 obtain ⟨q, _, _⟩ := obj_cells hs
 have c0 : w.cell? ⟨s, 1, none⟩ = some (.pointer (some ⟨r, 0, none⟩)) := q 1
 clear q
 go_enter Tryz.func45, Tryz.ntmps45
 go_wp2_with fail
 refine (source_Add_no _ d _ hd).mono ?_
 rintro e w' ⟨rfl, rfl⟩
 go_wp2
 go_ret
 exact ⟨rfl, rfl⟩
end Go.Proofs.YtgdoeoackhfikaaGreatDoor

namespace Go.Proofs.YtgdoeoackhfikaaGreatDoor
open Go.RowKit Go.Proofs.YtgdoeoackhfikaaGreatDoorW.PrintWords
set_option maxRecDepth 100000
set_option maxHeartbeats 4000000
set_option linter.unusedSimpArgs false
set_option linter.unusedVariables false
attribute [local go_sem] hs_other hs_alloc hs_falloc run_store_func run_makeFunc
attribute [local go_sem ↓] Go.wp_at_zero Go.wp_at_succ
theorem assert_has1 {P : Program} {want : Array (String × TypeId)} {asserted t : TypeId} (hu : P.underlying asserted = some (.interface want)) (h : (P.info? t).map (fun i => (lacking want i.methods).isEmpty) = some true)
  (v : Value) (xT : TypeId) (w : World) : (Instr.typeAssert (.iface t v) xT asserted false).run P w = .ok (.iface t v) w := by
 obtain ⟨i, hi, hl⟩ := Option.map_eq_some_iff.1 h
 simp [Instr.typeAssert, run_underlying hu, typeInfo, hi, missingMethod_none (List.isEmpty_iff.1 hl)]
theorem takeSteps (v : Value) (xT : TypeId) (w : World) : (Instr.typeAssert (.iface 324 v) xT 328 false).run Tryz.prog w = .ok (.iface 324 v) w :=
 assert_has1 Tryz.underlying328 (by kernel_rfl) v xT w
theorem giveSteps (v : Value) (xT : TypeId) (w : World) : (Instr.typeAssert (.iface 379 v) xT 328 false).run Tryz.prog w = .ok (.iface 379 v) w :=
 assert_has1 Tryz.underlying328 (by kernel_rfl) v xT w
theorem step_isTake (y : TL) (σ : MemS) : (y.step σ).1.nx.isTake = y.nx.isTake := by
 obtain ⟨c, at_, i, w, nx, st⟩ := y
 unfold TL.step
 split
 ·unfold TL.next
  cases nx <;> dsimp only <;> (repeat' split) <;> rfl
 ·rfl
theorem Post.part {F P : Nat → Prop} {w w1 : World} {b : MB} {σ σ' : MemS} {o : Nat} {x : OpS} {p : Part} {sv pv : Value} (hb : MemAt w b σ) (hA : Apart w b F) (hx : OpAt w F o x)
  (ho : w.heap[o]? = some (.cells (x.cs sv pv) 212 (0, 0))) (hsh : ShelfAt w F sv x.shelf) (hP : ∀ k, P k → F k ∧ k ≠ o ∧ sv.ownBlock ≠ some k)
  (hp : Post P w b σ' w1 (fun W F' => PartAt W F' pv p)) : Post F w b σ' w1 (fun W F' => OpAt W F' o { x with part := p }) := by
 refine Post.outer hb hA (fun k hk => (hP k hk).1) hp (Kp.refl _ _) (fun F1 F' h1 h2 h3 h4 hk hpa => ?_)
 have hl := hA.lt
 have hne := hA.ne
 have hkeep : ∀ k ob, F k → ¬ P k → w.heap[k]? = some ob → w1.heap[k]? = some ob := fun k ob hF hn hh => hk.heap hh (fun e => e.elim hn (hne k hF))
 refine ⟨h3 _ hx.own, ⟨sv, pv, F1, hkeep _ _ hx.own (fun e => (hP o e).2.1 rfl) ho, ?_, hpa, fun k hk1 => ⟨h2 k hk1, ?_⟩⟩, hx.right, hx.rwt, hx.rv, hx.ri, hx.rp, hx.few⟩
 ·refine ⟨row_step hsh.row fun k hv => ?_, fun k hv => h3 k (hsh.own k hv), hsh.range⟩
  have hlt := hl k (hsh.own k hv)
  exact hk.block k hlt (fun e => e.elim (fun e => (hP k e).2.2 hv) (hne k (hsh.own k hv)))
 ·rcases h1 k hk1 with h | h
  ·exact (hP k h).2
  ·refine ⟨fun e => ?_, fun e => ?_⟩
   ·have := hl o hx.own
    omega
   ·have := hl k (hsh.own k e)
    omega
theorem op_tried_take (w : World) (b : MB) (σ : MemS) (hb : MemAt w b σ) (hfn : σ.notes.length < 1000000000) (F : Nat → Prop) (hA : Apart w b F) (o : Nat) (x : OpS) (hx : OpAt w F o x) (y : TL) (hp : x.part = .tt y) (h3 : (y.step σ).1.st ≠ 3) (h1 : (y.step σ).1.st ≠ 1) :
  Calls Tryz.prog 233 #[.pointer (some ⟨o, 0, none⟩), .pointer (some ⟨b.m, 0, none⟩)] w fun e w' => e = .returned (.int .i64 (y.step σ).1.st) ∧ Post F w b (y.step σ).2 w' (fun W F' => OpAt W F' o { x with part := .tt (y.step σ).1 }) := by
 obtain ⟨sv, pv, P, ho, hsh, hpa, hP⟩ := hx.obj
 have hpa' : PartAt w P pv (.tt y) := hp ▸ hpa
 obtain ⟨a, rfl, ht, hk⟩ := hpa'
 have hstep := Take_Step w b σ hb hfn P (hA.small (fun k h => (hP k h).1)) a y ht
 obtain ⟨q, fq, lq⟩ := obj_cells ho
 have c14 : w.cell? ⟨o, 14, none⟩ = some (.iface 324 (.pointer (some ⟨a, 0, none⟩))) := q 14
 have hkT : (y.step σ).1.nx.isTake = true := (step_isTake y σ).trans hk
 have t3 : ((y.step σ).1.st == 3) = false := beq_eq_false_iff_ne.2 h3
 have t1 : ((y.step σ).1.st != 1) = true := by rw [bne_iff_ne]; exact h1
 have hasrt := takeSteps (.pointer (some ⟨a, 0, none⟩))
 clear q fq
 go_enter Tryz.func233, Tryz.ntmps233
 go_wp2_with fail
 refine hstep.mono ?_
 rintro e w1 ⟨rfl, hpost⟩
 have HP := Lib.hid hpost
 clear hpost
 go_wp2
 go_ret
 exact ⟨rfl, Post.part hb hA hx ho hsh hP (HP.out.imp (fun F' h => ⟨a, rfl, h, hkT⟩))⟩
theorem info_pTake : (Tryz.prog.info? 322).map (fun i => (i.zero, i.size, i.bytes)) = some (some (.pointer none), 1, 8) := by kernel_rfl
theorem info_pGive : (Tryz.prog.info? 358).map (fun i => (i.zero, i.size, i.bytes)) = some (some (.pointer none), 1, 8) := by kernel_rfl
theorem info_pVisit : (Tryz.prog.info? 359).map (fun i => (i.zero, i.size, i.bytes)) = some (some (.pointer none), 1, 8) := by kernel_rfl
theorem info_access : (Tryz.prog.info? 361).map (fun i => (i.zero, i.size, i.bytes)) = some (some (.agg #[.int .i64 0, .bool false]), 2, 16) := by kernel_rfl
theorem op_step_take (w : World) (b : MB) (σ : MemS) (hb : MemAt w b σ) (hfn : σ.notes.length < 1000000000) (F : Nat → Prop) (hA : Apart w b F) (o : Nat) (x : OpS) (hx : OpAt w F o x) (y : TL) (hp : x.part = .tt y) (h3 : (y.step σ).1.st ≠ 3) (h1 : (y.step σ).1.st ≠ 1) (r : Value) :
  Calls Tryz.prog 228 #[.pointer (some ⟨o, 0, none⟩), .pointer (some ⟨b.m, 0, none⟩), r] w fun e w' => e = .returned (.int .i64 (y.step σ).1.st) ∧ Post F w b (y.step σ).2 w' (fun W F' => OpAt W F' o { x with part := .tt (y.step σ).1 }) := by
 have htr := op_tried_take w b σ hb hfn F hA o x hx y hp h3 h1
 obtain ⟨sv, pv, P, ho, hsh, hpa, hP⟩ := hx.obj
 have hpa' : PartAt w P pv (.tt y) := hp ▸ hpa
 obtain ⟨a, rfl, ht, hk⟩ := hpa'
 obtain ⟨q, fq, lq⟩ := obj_cells ho
 have c14 : w.cell? ⟨o, 14, none⟩ = some (.iface 324 (.pointer (some ⟨a, 0, none⟩))) := q 14
 obtain ⟨j1, k1, z1, _⟩ := info_parts info_pTake
 obtain ⟨j2, k2, z2, _⟩ := info_parts info_pGive
 obtain ⟨j3, k3, z3, _⟩ := info_parts info_pVisit
 obtain ⟨j4, k4, z4, _⟩ := info_parts info_access
 have s1 := fun (v : Value) W => assert_otherP (P := Tryz.prog) (w := W) 324 322 20 v Tryz.underlying322 (by decide) k1 z1
 have s2 := fun (v : Value) W => assert_otherP (P := Tryz.prog) (w := W) 324 358 20 v Tryz.underlying358 (by decide) k2 z2
 have s3 := fun (v : Value) W => assert_otherP (P := Tryz.prog) (w := W) 324 359 20 v Tryz.underlying359 (by decide) k3 z3
 have s4 := fun (v : Value) W => assert_other (P := Tryz.prog) (w := W) 324 361 20 v Tryz.underlying361 (by decide) k4 z4
 clear q fq k1 z1 k2 z2 k3 z3 k4 z4
 go_enter Tryz.func228, Tryz.ntmps228
 go_wp2_with fail
 refine htr.mono ?_
 rintro e w1 ⟨rfl, hpost⟩
 have HP := Lib.hid hpost
 clear hpost
 go_wp2
 go_ret
 exact ⟨rfl, HP.out⟩
end Go.Proofs.YtgdoeoackhfikaaGreatDoor

namespace Go.Proofs.YtgdoeoackhfikaaGreatDoor
open Go.RowKit Go.Proofs.YtgdoeoackhfikaaGreatDoorW.PrintWords
set_option maxRecDepth 100000
set_option maxHeartbeats 4000000
set_option linter.unusedSimpArgs false
set_option linter.unusedVariables false
attribute [local go_sem] hs_other hs_alloc hs_falloc run_store_func run_makeFunc
attribute [local go_sem ↓] Go.wp_at_zero Go.wp_at_succ
def SApart (b : MB) (F : Nat → Prop) (s : Nat) (dv : Value) : Prop := ∀ k, (k = s ∨ dv.ownBlock = some k) → ¬ F k ∧ ¬ b.has k
def grownO (F : Nat → Prop) (w w' : World) (nv' dv' : Value) (k : Nat) : Prop := F k ∨ (w.heap.size ≤ k ∧ k < w'.heap.size ∧ nv'.ownBlock ≠ some k ∧ dv'.ownBlock ≠ some k)
def OPost (F : Nat → Prop) (w : World) (b : MB) (s : Nat) (dv : Value) (σ' : MemS) (r' : SrcS) (w' : World) (X : World → (Nat → Prop) → Prop) : Prop :=
 ∃ nv' dv', MemAt w' { b with nv := nv' } σ' ∧ SrcAt w' s dv' r' ∧ (∀ k, nv'.ownBlock = some k → b.nv.ownBlock = some k ∨ w.heap.size ≤ k) ∧ (∀ k, dv'.ownBlock = some k → dv.ownBlock = some k ∨ w.heap.size ≤ k) ∧
  Kp (fun k => F k ∨ b.has k ∨ k = s ∨ dv.ownBlock = some k) w w' ∧ X w' (grownO F w w' nv' dv')
theorem Post.src {F : Nat → Prop} {w w' : World} {b : MB} {σ' : MemS} {X : World → (Nat → Prop) → Prop} (h : Post F w b σ' w' X) {s : Nat} {dv : Value} {r : SrcS} (hs : SrcAt w s dv r) (ha : SApart b F s dv) : OPost F w b s dv σ' r w' X := by
 obtain ⟨nv', hm, hn, hk, hx⟩ := h
 refine ⟨nv', dv, hm, hs.kept hk (fun k hk' e => e.elim (ha k hk').1 (ha k hk').2), hn, fun k h => .inl h, hk.mono (fun k e => e.imp id .inl), ?_⟩
 have e : grownF F w w' nv' = grownO F w w' nv' dv := by
  funext k
  apply propext
  constructor
  ·rintro (h | ⟨h1, h2, h3⟩)
   ·exact .inl h
   ·refine .inr ⟨h1, h2, h3, fun e => ?_⟩
    have := hs.lt k (.inr e)
    omega
  ·rintro (h | ⟨h1, h2, h3, _⟩)
   ·exact .inl h
   ·exact .inr ⟨h1, h2, h3⟩
 rw [← e]
 exact hx
theorem OPost.set {F : Nat → Prop} {w w1 : World} {b : MB} {s : Nat} {dv : Value} {σ σ' : MemS} {r r' : SrcS} {o : Nat} {y : OpS} (hb : MemAt w b σ) (hs : SrcAt w s dv r) (hA : Apart w b F) (ha : SApart b F s dv) (hF : F o) (h : OPost F w b s dv σ' r' w1 (fun W F' => OpAt W F' o y)) (st : Int) :
  OPost F w b s dv σ' r' (w1.setCell ⟨o, 15, none⟩ (.int .i64 st)) (fun W F' => OpAt W F' o { y with st := st }) := by
 obtain ⟨nv', dv', hm, hs', hn, hd, hk, hx⟩ := h
 have hlo := hA.lt o hF
 have hk1 : Kp (fun k => k = o) w1 (w1.setCell ⟨o, 15, none⟩ (.int .i64 st)) := Kp.st (S := fun k => k = o) (Kp.refl _ _) (.inl rfl) 15 _
 have nb : ∀ k, (k = b.m ∨ k = b.g ∨ nv'.ownBlock = some k) → k ≠ o := fun k hk' e => by
  subst e
  rcases hk' with h | h | h
  ·exact hA.ne k hF (.inl h)
  ·exact hA.ne k hF (.inr (.inl h))
  ·rcases hn k h with h | h
   ·exact hA.ne k hF (.inr (.inr h))
   ·omega
 have ns : ∀ k, (k = s ∨ dv'.ownBlock = some k) → k ≠ o := fun k hk' e => by
  subst e
  rcases hk' with h | h
  ·exact (ha k (.inl h)).1 hF
  ·rcases hd k h with h | h
   ·exact (ha k (.inr h)).1 hF
   ·omega
 refine ⟨nv', dv', hm.kept hk1 nb, hs'.kept hk1 ns, hn, hd, hk.comp hk1 (fun k _ e => .inl (e ▸ hF)), ?_⟩
 have e : grownO F w (w1.setCell ⟨o, 15, none⟩ (.int .i64 st)) nv' dv' = grownO F w w1 nv' dv' := by
  funext k
  unfold grownO
  simp [World.setCell]
 rw [e]
 obtain ⟨sv, pv, P, ho, hsh, hpa, hP⟩ := hx.obj
 have hts : ∀ k, sv.ownBlock = some k → k ≠ o := ne_of_row ho hsh.row (by decide)
 refine ⟨hx.own, ⟨sv, pv, P, ?_, ?_, ?_, hP⟩, hx.right, hx.rwt, hx.rv, hx.ri, hx.rp, hx.few⟩
 ·exact hp_same _ o 15 (.int .i64 st) ho
 ·exact ⟨hk1.row hsh.row hts, hsh.own, hsh.range⟩
 ·exact hpa.kept (fun k ob hk' hh => hk1.heap hh (hP k hk').2.1) (fun _ h => h)
theorem OPost.cells {F : Nat → Prop} {w w1 : World} {b : MB} {s : Nat} {dv : Value} {σ' : MemS} {r' : SrcS} {o : Nat} {y : OpS} (h : OPost F w b s dv σ' r' w1 (fun W F' => OpAt W F' o y)) : ∃ sv pv, w1.heap[o]? = some (.cells (y.cs sv pv) 212 (0, 0)) := by
 obtain ⟨nv', dv', hm, hs', hn, hd, hk, hx⟩ := h
 obtain ⟨sv, pv, P, ho, _⟩ := hx.obj
 exact ⟨sv, pv, ho⟩
theorem OPost.drewO {F : Nat → Prop} {w w' : World} {b : MB} {s : Nat} {dv : Value} {σ' : MemS} {r' : SrcS} {o : Nat} {y : OpS} (h : OPost F w b s dv σ' r' w' (fun W F' => OpAt W F' o y)) : OPost F w b s dv σ' r' w'.drew (fun W F' => OpAt W F' o y) := by
 obtain ⟨nv', dv', hm, hs', hn, hd, hk, hx⟩ := h
 exact ⟨nv', dv', ⟨hm.own, hm.words, hm.notes, hm.range, hm.few⟩, ⟨hs'.own, hs'.row, hs'.range, hs'.dr⟩, hn, hd, hk.drew, hx.kept (fun _ _ _ h => h) (fun _ h => h)⟩
theorem op_Step_of (w : World) (b : MB) (σ σ' : MemS) (hb : MemAt w b σ) (s : Nat) (dv : Value) (r r' : SrcS) (hs : SrcAt w s dv r) (F : Nat → Prop) (hA : Apart w b F) (ha : SApart b F s dv) (o : Nat) (x y : OpS) (hx : OpAt w F o x) (hst : x.st = 0) (st : Int) (hpush : y.push = x.push)
  (hstep : Calls Tryz.prog 228 #[.pointer (some ⟨o, 0, none⟩), .pointer (some ⟨b.m, 0, none⟩), .pointer (some ⟨s, 0, none⟩)] w fun e w' => e = .returned (.int .i64 st) ∧ OPost F w b s dv σ' r' w' (fun W F' => OpAt W F' o y)) :
  Calls Tryz.prog 227 #[.pointer (some ⟨o, 0, none⟩), .pointer (some ⟨b.m, 0, none⟩), .pointer (some ⟨s, 0, none⟩)] w fun e w' => e = .returned (.tuple #[.int .i64 st, .int .u64 (OpS.told { y with st := st })]) ∧ OPost F w b s dv σ' r' w' (fun W F' => OpAt W F' o { y with st := st }) := by
 obtain ⟨sv, pv, P, ho, _⟩ := hx.obj
 obtain ⟨q, fq, lq⟩ := obj_cells ho
 have c15 : w.cell? ⟨o, 15, none⟩ = some (.int .i64 0) := by rw [q 15]; show some (Value.int .i64 x.st) = _; rw [hst]
 clear q fq ho
 go_enter Tryz.func227, Tryz.ntmps227
 go_wp2_with fail
 refine hstep.mono ?_
 rintro e w1 ⟨rfl, hpost⟩
 obtain ⟨sv1, pv1, ho1⟩ := hpost.cells
 obtain ⟨q, fq, lq1⟩ := obj_cells ho1
 have d15 : w1.cell? ⟨o, 15, none⟩ = some (.int .i64 y.st) := q 15
 have f15 : w1.frozen? ⟨o, 15, none⟩ = false := fq 15
 have HP := Lib.hid (hpost.set hb hs hA ha hx.own st)
 have d10 : w1.cell? ⟨o, 10, none⟩ = some (.bool y.push) := q 10
 clear q fq ho1 hpost c15
 cases hpp : y.push
 ·rw [hpp] at d10
  by_cases h1 : st = 1
  ·subst h1
   have hv : OpS.told { y with st := 1 } = y.v := by unfold OpS.told; exact if_pos ⟨hpp, rfl⟩
   go_wp2_with fail
   refine wp_world ?_
   intro W hW
   rw [← hW] at HP
   obtain ⟨sv2, pv2, ho2⟩ := HP.out.cells
   obtain ⟨q, fq, lq2⟩ := obj_cells ho2
   have e11 : W.cell? ⟨o, 11, none⟩ = some (.int .u64 y.v) := q 11
   have e15 : W.cell? ⟨o, 15, none⟩ = some (.int .i64 1) := q 15
   clear hW q fq ho2 d15 f15
   go_region_held3 (fun w' => w'.cell? ⟨o, 11, none⟩ = some (.int .u64 y.v) ∧ w'.cell? ⟨o, 15, none⟩ = some (.int .i64 1)) (exact ⟨e11, e15⟩) (fail)
   go_wp2
   go_ret2
   exact ⟨by rw [hv]; rfl, HP.out.drewO⟩
  ·have t1 : (st != 1) = true := by rw [bne_iff_ne]; exact h1
   have hv : OpS.told { y with st := st } = 0 := by unfold OpS.told; exact if_neg (fun e => h1 e.2)
   go_wp2
   go_ret2
   exact ⟨by rw [hv]; rfl, HP.out⟩
 ·rw [hpp] at d10
  have hv : OpS.told { y with st := st } = 0 := by unfold OpS.told; exact if_neg (fun e => by have := e.1; rw [show ({ y with st := st } : OpS).push = y.push from rfl, hpp] at this; cases this)
  go_wp2
  go_ret2
  exact ⟨by rw [hv]; rfl, HP.out⟩
end Go.Proofs.YtgdoeoackhfikaaGreatDoor

namespace Go.Proofs.YtgdoeoackhfikaaGreatDoor
open Go.RowKit Go.Proofs.YtgdoeoackhfikaaGreatDoorW.PrintWords
set_option maxRecDepth 100000
set_option maxHeartbeats 2000000
set_option linter.unusedSimpArgs false
set_option linter.unusedVariables false
attribute [local go_sem] hs_other hs_alloc hs_falloc
attribute [local go_sem ↓] Go.wp_at_zero Go.wp_at_succ
theorem sched_Pick_idle (w : World) (s m r g n : Nat) (picks : Int) (t : Nat) (hs : SchedC w s m r g n picks) (ht : t < n) (hc : w.cell? ⟨g, t, none⟩ = some .nilIface) :
  Calls Tryz.prog 85 #[.pointer (some ⟨s, 0, none⟩), .int .i64 t] w fun e w' => e = .returned (.tuple #[.int .i64 0, .int .u64 0, .int .i64 6]) ∧ w' = w := by
 have hd : decide (0 ≤ (t : Int) ∧ (t : Int) < (n : Int)) = true := decide_eq_true (by omega)
 go_enter Tryz.func85, Tryz.ntmps85
 go_wp2_with fail
 refine (sched_there w s m r g n picks t hs).mono ?_
 rintro e w' ⟨rfl, rfl⟩
 rw [hd]
 go_wp2_with fail
 refine (sched_Busy_nil _ s m r g n picks t hs ht hc).mono ?_
 rintro e w' ⟨rfl, rfl⟩
 go_wp2
 go_returns
 exact ⟨rfl, rfl⟩
theorem sched_Pick (w : World) (s m r g n : Nat) (picks : Int) (hp : 0 ≤ picks ∧ picks < 1000000000) (t o : Nat) (hs : SchedC w s m r g n picks) (ht : t < n) (hc : w.cell? ⟨g, t, none⟩ = some (.iface 65 (.pointer (some ⟨o, 0, none⟩)))) (X : Int → Int → World → Prop)
  (hstep : ∀ W1, Kp (fun _ => False) (w.setCell ⟨s, 3, none⟩ (.int .i64 (picks + 1))) W1 → Calls Tryz.prog 227 #[.pointer (some ⟨o, 0, none⟩), .pointer (some ⟨m, 0, none⟩), .pointer (some ⟨r, 0, none⟩)] W1 fun e w' => ∃ st v, e = .returned (.tuple #[.int .i64 st, .int .u64 v]) ∧ SchedC w' s m r g n (picks + 1) ∧ w'.frozen? ⟨g, t, none⟩ = false ∧ w'.cell? ⟨g, t, none⟩ = some (.iface 65 (.pointer (some ⟨o, 0, none⟩))) ∧ X st v w') :
  Calls Tryz.prog 85 #[.pointer (some ⟨s, 0, none⟩), .int .i64 t] w fun e w' => ∃ st v W, e = .returned (.tuple #[.int .i64 st, .int .u64 v, .int .i64 0]) ∧ X st v W ∧ w' = if st = 0 then W else W.setCell ⟨g, t, none⟩ .nilIface := by
 have hd : decide (0 ≤ (t : Int) ∧ (t : Int) < (n : Int)) = true := decide_eq_true (by omega)
 have ht' : (t : Int) < (n : Int) := by omega
 have hw : IntKind.i64.wrap (picks + 1) = picks + 1 := by
  simp [IntKind.wrap, IntKind.bits, IntKind.signed]; omega
 obtain ⟨q, fq, lq⟩ := obj_cells hs
 have c0 : w.cell? ⟨s, 0, none⟩ = some (.pointer (some ⟨m, 0, none⟩)) := q 0
 have c1 : w.cell? ⟨s, 1, none⟩ = some (.pointer (some ⟨r, 0, none⟩)) := q 1
 have c2 : w.cell? ⟨s, 2, none⟩ = some (.slice (some ⟨g, 0, none⟩) n n) := q 2
 have c3 : w.cell? ⟨s, 3, none⟩ = some (.int .i64 picks) := q 3
 have f3 : w.frozen? ⟨s, 3, none⟩ = false := fq 3
 have hgs : g ≠ s := by
  intro e
  subst e
  have : w.cell? ⟨g, t, none⟩ = _ := q t
  rw [hc] at this
  match t, this with
  | 0, h => cases h
  | 1, h => cases h
  | 2, h => cases h
  | 3, h => cases h
  | k + 4, h => simp at h
 have hgs1 : (s = g) = False := eq_false (fun e => hgs e.symm)
 clear q fq
 go_enter Tryz.func85, Tryz.ntmps85
 go_wp2_with fail
 refine (sched_there w s m r g n picks t hs).mono ?_
 rintro e w' ⟨rfl, rfl⟩
 rw [hd]
 go_wp2_with fail
 refine (sched_Busy_has _ s m r g n picks t _ _ hs ht hc).mono ?_
 rintro e w' ⟨rfl, rfl⟩
 go_wp2_with fail
 refine wp_world ?_
 intro W hW
 have hs1 : W.heap[s]? = some (.cells #[.pointer (some ⟨m, 0, none⟩), .pointer (some ⟨r, 0, none⟩), .slice (some ⟨g, 0, none⟩) n n, .int .i64 (picks + 1)] 136 (0, 0)) := by rw [hW]; exact hp_same _ s 3 _ hs
 obtain ⟨q, _, _⟩ := obj_cells hs1
 have d0 : W.cell? ⟨s, 0, none⟩ = some (.pointer (some ⟨m, 0, none⟩)) := q 0
 have d1 : W.cell? ⟨s, 1, none⟩ = some (.pointer (some ⟨r, 0, none⟩)) := q 1
 have d2 : W.cell? ⟨s, 2, none⟩ = some (.slice (some ⟨g, 0, none⟩) n n) := q 2
 have dc : W.cell? ⟨g, t, none⟩ = some (.iface 65 (.pointer (some ⟨o, 0, none⟩))) := by rw [hW]; exact (hs_other _ _ _ _ (eq_false (fun e => hgs (by injection e with e _; exact e.symm)))).trans hc
 rw [← hW] at hstep
 clear hW c0 c1 c2 c3 f3 hc hs q hs1
 go_region_held3 (fun w' => w'.cell? ⟨s, 0, none⟩ = some (.pointer (some ⟨m, 0, none⟩)) ∧ w'.cell? ⟨s, 1, none⟩ = some (.pointer (some ⟨r, 0, none⟩)) ∧ w'.cell? ⟨s, 2, none⟩ = some (.slice (some ⟨g, 0, none⟩) n n) ∧ w'.cell? ⟨g, t, none⟩ = some (.iface 65 (.pointer (some ⟨o, 0, none⟩))))
  (first | exact ⟨d0, d1, d2, dc⟩ | exact ⟨(obj_cells hs2).1 0, (obj_cells hs2).1 1, (obj_cells hs2).1 2, hu2⟩)
  ((go_at_call 227; refine (hstep W.drew (Kp.refl _ _).drew).mono ?_; rintro e w2 ⟨st, v, rfl, hs2, hf2, hu2, hX⟩))
 have g2 : w2.cell? ⟨s, 2, none⟩ = some (.slice (some ⟨g, 0, none⟩) n n) := (obj_cells hs2).1 2
 by_cases h0 : st = 0
 ·have hz : (st != 0) = false := by rw [h0]; rfl
  go_wp2
  go_returns
  exact ⟨st, v, w2, rfl, hX, by rw [if_pos h0]⟩
 ·have hz : (st != 0) = true := by simpa using h0
  go_wp2
  go_returns
  exact ⟨st, v, w2, rfl, hX, by rw [if_neg h0]⟩
end Go.Proofs.YtgdoeoackhfikaaGreatDoor

/-
  Parts of the proof of runnerSkips_holds: ArenaC, ArenaD, ArenaF, ArenaG.
-/
import Derived.Test.YtgdoeoackhfikaaGreatDoorQA5
import Derived.Deep.RegionLaw
namespace Go.Proofs.YtgdoeoackhfikaaGreatDoor
open Go.RowKit Go.Proofs.YtgdoeoackhfikaaGreatDoorW.PrintWords
set_option maxRecDepth 100000
set_option maxHeartbeats 4000000
set_option linter.unusedSimpArgs false
set_option linter.unusedVariables false
attribute [local go_sem] hs_other hs_alloc hs_falloc run_store_func run_makeFunc
attribute [local go_sem ↓] Go.wp_at_zero Go.wp_at_succ
theorem TL.step_kind (x : TL) (m : MemS) : (x.step m).1.nx.isTake = x.nx.isTake := by
 unfold TL.step
 split
 ·unfold TL.next
  cases hn : x.nx <;> simp only [] <;> (repeat' split) <;> simp_all [TN.isTake]
 ·rfl
theorem TLAt.told {w : World} {F : Nat → Prop} {t : Nat} {y : TL} (h : TLAt w F t y) : 0 ≤ y.told ∧ y.told < 4294967296 := by
 unfold TL.told
 split
 ·exact h.ri
 ·simp
theorem tries_goOn_take (w : World) (b : MB) (σ : MemS) (hb : MemAt w b σ) (hfn : σ.notes.length < 1000000000) (F : Nat → Prop) (hA : Apart w b F) (a : Nat) (x : TR) (hx : TRAt w F a none x) (hs : x.st = 0) (t : TL) (hn : x.now = some t) :
  Calls Tryz.prog 248 #[.pointer (some ⟨a, 0, none⟩), .pointer (some ⟨b.m, 0, none⟩)] w (TriesPost w b F a none (x.goOn σ).1 (x.goOn σ).2) := by
 have hk := hx.kindN t hn
 have hFa := hx.own
 obtain ⟨sv, fv, nv, ho, h1, h2, h3⟩ := hx.obj
 rw [hn] at h3
 obtain ⟨tb, rfl, ht⟩ := h3
 rw [hk] at ho
 have ho1 : w.heap[a]? = some (.cells #[.int .i64 x.left, sv, fv, .iface 324 (.pointer (some ⟨tb, 0, none⟩)), .int .i64 0, .int .u32 x.i] 334 (0, 0)) := by have := ho; simp only [trCells, trTy, hs] at this; exact this
 obtain ⟨q, fq, lq⟩ := obj_cells ho1
 have c3 : w.cell? ⟨a, 3, none⟩ = some (.iface 324 (.pointer (some ⟨tb, 0, none⟩))) := q 3
 have c4 : w.cell? ⟨a, 4, none⟩ = some (.int .i64 0) := q 4
 have hst := Take_Step w b σ hb hfn (tlBlk w F) (hA.small (fun _ h => h.1)) tb t ht.small
 have hna : ¬ tlBlk w F a := not_tlBlk ho1 (by decide) (by decide) (by decide) (by decide) (by decide)
 have hba : ¬ b.has a := hA.ne a hFa
 have HO := Lib.hid ho1
 obtain ⟨A, cc, rfl⟩ := row_slice h1.row
 have hap := of_ap ho hx.ap
 have hfc : ∃ fnn ff fc, fv = .func fnn ff fc := by
  unfold FreshFn at h2
  split at h2
  ·obtain ⟨_, _, rfl, _⟩ := h2; exact ⟨_, _, _, rfl⟩
  ·obtain ⟨_, _, _, _, rfl, _⟩ := h2; exact ⟨_, _, _, rfl⟩
 obtain ⟨fnn, ff, fc, rfl⟩ := hfc
 have hkr := hx.right
 have hkk := hx.kind
 have hrf := hx.rf
 have hgo : x.goOn σ = (if (t.step σ).1.st = 3 then ({ x with now := none, st := if x.left = 0 then 6 else 0, i := (t.step σ).1.told, left := wrap64 (x.left - 1) }, (t.step σ).2) else ({ x with now := some (t.step σ).1, st := (t.step σ).1.st, i := (t.step σ).1.told }, (t.step σ).2)) := by
  unfold TR.goOn
  rw [if_neg (by simp [hs]), hn]
  rfl
 have htk := TL.step_kind t σ
 generalize t.step σ = r at *
 obtain ⟨y, σ'⟩ := r
 simp only at hst hgo htk
 rw [hgo]
 clear hgo q fq ho ho1 hn
 have hty : 0 ≤ y.told ∧ y.told < 4294967296 ∨ True := .inr trivial
 have hin : ∀ (w1 W : World) (F1 F' : Nat → Prop) (left st i : Int) (nv : Value) (nw : Option TL), TLAt w1 F1 tb y → ¬ F1 a → (∀ k, F1 k → F' k) → (∀ k, F k → F' k) → (∀ k cs u, F k → w.heap[k]? = some (.cells cs u (0, 0)) → (u = 32 ∨ u = 30) → w1.heap[k]? = some (.cells cs u (0, 0))) → Kp (fun k => k = a) w1 W → 0 ≤ i ∧ i < 4294967296 → W.heap[a]? = some (.cells #[.int .i64 left, .slice A x.shelf.length cc, .func fnn ff fc, nv, .int .i64 st, .int .u32 i] 334 (0, 0)) → (nw = none ∧ nv = .nilIface ∨ nw = some y ∧ nv = .iface 324 (.pointer (some ⟨tb, 0, none⟩))) →
   TRAt W F' a none { x with now := nw, st := st, i := i, left := left } := by
  intro w1 W F1 F' left st i nv nw hy hF1a hF1 hF hk1 hk2 hi hob hnw
  have hkeep : ∀ k cs u, F k → w.heap[k]? = some (.cells cs u (0, 0)) → (u = 32 ∨ u = 30) → W.heap[k]? = some (.cells cs u (0, 0)) := by
   intro k cs u hFk hh hu
   have h1' : w1.heap[k]? = some (.cells cs u (0, 0)) := hk1 k cs u hFk hh hu
   exact hk2.heap h1' (fun e => by
    subst e
    have := HO.out
    rw [hh] at this
    injection this with this
    injection this with _ hu'
    rcases hu with hu | hu <;> subst hu <;> exact absurd hu' (by decide))
  refine ⟨hF _ hFa, ⟨_, _, nv, hob, h1.kept' (fun k cs u hf hh hu => hkeep k cs u hf hh (.inr hu)) hF, h2.kept' hkeep hF, ?_⟩, hkk, ?_, hkr, hi, hrf, ap_of (σ := { x with now := nw, st := st, i := i, left := left }) (nd := none) hob hap⟩
  ·rcases hnw with ⟨rfl, rfl⟩ | ⟨rfl, rfl⟩
   ·rfl
   ·refine ⟨tb, by rw [htk, hk]; rfl, ?_⟩
    exact hy.kept (fun k o hk' ho' => hk2.heap ho' (fun e => by
     subst e
     exact hF1a hk')) hF1
  ·intro z hz
   rcases hnw with ⟨rfl, _⟩ | ⟨rfl, _⟩
   ·cases hz
   ·injection hz with hz; rw [← hz, htk, hk]
 have HI := Lib.hid hin
 clear hin h1 h2 ht hkr hkk hrf hty
 by_cases h3 : y.st = 3
 ·by_cases hl : x.left = 0
  ·skip
   have t3 : (y.st == 3) = true := by rw [h3]; rfl
   have t4 : (x.left == 0) = true := by rw [hl]; rfl
   rw [if_pos h3, if_pos hl]
   clear h3 hl
   go_enter Tryz.func248, Tryz.ntmps248
   go_wp2_with fail
   refine hst.mono ?_
   rintro e w1 ⟨rfl, hP⟩
   have hkp : Kp (fun k => tlBlk w F k ∨ b.has k) w w1 := by obtain ⟨_, _, _, hk, _⟩ := hP; exact hk
   have hO1 := hkp.heap HO.out (by rintro (h | h); exact hna h; exact hba h)
   obtain ⟨q1, fq1, lq1⟩ := obj_cells hO1
   have HO1 := Lib.hid hO1
   have HP := Lib.hid hP
   clear hO1 hP hst c3 c4
   go_wp2_with fail
   refine wp_world ?_
   intro W hW
   have hOW : W.heap[a]? = some (.cells #[.int .i64 (wrap64 (x.left - 1)), .slice A x.shelf.length cc, .func fnn ff fc, .nilIface, .int .i64 6, .int .u32 y.told] 334 (0, 0)) := by rw [hW]; exact hp_same _ _ 0 (.int .i64 (wrap64 (x.left - 1))) (hp_same _ _ 4 (.int .i64 6) (hp_same _ _ 4 (.int .i64 0) (hp_same _ _ 3 .nilIface (hp_same _ _ 5 (.int .u32 y.told) (hp_same _ _ 4 (.int .i64 y.st) HO1.out)))))
   have hKW : Kp (fun k => k = a) w1 W := by rw [hW]; exact Kp.st (S := fun k => k = a) (Kp.st (S := fun k => k = a) (Kp.st (S := fun k => k = a) (Kp.st (S := fun k => k = a) (Kp.st (S := fun k => k = a) (Kp.st (S := fun k => k = a) (Kp.refl _ _) (.inl rfl) 4 _) (.inl rfl) 5 _) (.inl rfl) 3 _) (.inl rfl) 4 _) (.inl rfl) 4 _) (.inl rfl) 0 _
   obtain ⟨q2, fq2, lq2⟩ := obj_cells hOW
   have d4 : W.cell? ⟨a, 4, none⟩ = some (.int .i64 6) := q2 4
   have d5 : W.cell? ⟨a, 5, none⟩ = some (.int .u32 y.told) := q2 5
   have HOW := Lib.hid hOW
   have HKW := Lib.hid hKW
   clear hW hOW hKW q1 fq1 q2 fq2
   go_region_held3 (fun w' => w'.cell? ⟨a, 4, none⟩ = some (.int .i64 6) ∧ w'.cell? ⟨a, 5, none⟩ = some (.int .u32 y.told)) (exact ⟨d4, d5⟩) (fail)
   go_wp2
   go_ret2
   exact ⟨rfl, Post.outer hb hA (fun _ h => h.1) HP.out (HKW.out.drew.mono (fun k e => by rw [e]; exact hFa)) (fun F1 F' g1 g2 g3 g4 g5 g6 => (HI.out w1 W F1 F' (wrap64 (x.left - 1)) 6 y.told (.nilIface) none g6 (fun h => by rcases g1 _ h with h | h; exact hna h; omega) g2 g3 (fun k cs u hFk hh hu => g5.heap hh (by rintro (h | h); (rcases hu with hu | hu <;> subst hu <;> exact not_tlBlk hh (by decide) (by decide) (by decide) (by decide) (by decide) h); exact hA.ne k hFk h)) HKW.out g6.told HOW.out (.inl ⟨rfl, rfl⟩)).kept (fun _ _ _ h => h) (fun _ h => h))⟩
  ·skip
   have t3 : (y.st == 3) = true := by rw [h3]; rfl
   have t4 : (x.left == 0) = false := beq_eq_false_iff_ne.2 hl
   rw [if_pos h3, if_neg hl]
   clear h3 hl
   go_enter Tryz.func248, Tryz.ntmps248
   go_wp2_with fail
   refine hst.mono ?_
   rintro e w1 ⟨rfl, hP⟩
   have hkp : Kp (fun k => tlBlk w F k ∨ b.has k) w w1 := by obtain ⟨_, _, _, hk, _⟩ := hP; exact hk
   have hO1 := hkp.heap HO.out (by rintro (h | h); exact hna h; exact hba h)
   obtain ⟨q1, fq1, lq1⟩ := obj_cells hO1
   have HO1 := Lib.hid hO1
   have HP := Lib.hid hP
   clear hO1 hP hst c3 c4
   go_wp2_with fail
   refine wp_world ?_
   intro W hW
   have hOW : W.heap[a]? = some (.cells #[.int .i64 (wrap64 (x.left - 1)), .slice A x.shelf.length cc, .func fnn ff fc, .nilIface, .int .i64 0, .int .u32 y.told] 334 (0, 0)) := by rw [hW]; exact hp_same _ _ 0 (.int .i64 (wrap64 (x.left - 1))) (hp_same _ _ 4 (.int .i64 0) (hp_same _ _ 3 .nilIface (hp_same _ _ 5 (.int .u32 y.told) (hp_same _ _ 4 (.int .i64 y.st) HO1.out))))
   have hKW : Kp (fun k => k = a) w1 W := by rw [hW]; exact Kp.st (S := fun k => k = a) (Kp.st (S := fun k => k = a) (Kp.st (S := fun k => k = a) (Kp.st (S := fun k => k = a) (Kp.st (S := fun k => k = a) (Kp.refl _ _) (.inl rfl) 4 _) (.inl rfl) 5 _) (.inl rfl) 3 _) (.inl rfl) 4 _) (.inl rfl) 0 _
   obtain ⟨q2, fq2, lq2⟩ := obj_cells hOW
   have d4 : W.cell? ⟨a, 4, none⟩ = some (.int .i64 0) := q2 4
   have d5 : W.cell? ⟨a, 5, none⟩ = some (.int .u32 y.told) := q2 5
   have HOW := Lib.hid hOW
   have HKW := Lib.hid hKW
   clear hW hOW hKW q1 fq1 q2 fq2
   go_region_held3 (fun w' => w'.cell? ⟨a, 4, none⟩ = some (.int .i64 0) ∧ w'.cell? ⟨a, 5, none⟩ = some (.int .u32 y.told)) (exact ⟨d4, d5⟩) (fail)
   go_wp2
   go_ret2
   exact ⟨rfl, Post.outer hb hA (fun _ h => h.1) HP.out (HKW.out.drew.mono (fun k e => by rw [e]; exact hFa)) (fun F1 F' g1 g2 g3 g4 g5 g6 => (HI.out w1 W F1 F' (wrap64 (x.left - 1)) 0 y.told (.nilIface) none g6 (fun h => by rcases g1 _ h with h | h; exact hna h; omega) g2 g3 (fun k cs u hFk hh hu => g5.heap hh (by rintro (h | h); (rcases hu with hu | hu <;> subst hu <;> exact not_tlBlk hh (by decide) (by decide) (by decide) (by decide) (by decide) h); exact hA.ne k hFk h)) HKW.out g6.told HOW.out (.inl ⟨rfl, rfl⟩)).kept (fun _ _ _ h => h) (fun _ h => h))⟩
 ·skip
  have t3 : (y.st == 3) = false := beq_eq_false_iff_ne.2 h3
  rw [if_neg h3]
  clear h3
  go_enter Tryz.func248, Tryz.ntmps248
  go_wp2_with fail
  refine hst.mono ?_
  rintro e w1 ⟨rfl, hP⟩
  have hkp : Kp (fun k => tlBlk w F k ∨ b.has k) w w1 := by obtain ⟨_, _, _, hk, _⟩ := hP; exact hk
  have hO1 := hkp.heap HO.out (by rintro (h | h); exact hna h; exact hba h)
  obtain ⟨q1, fq1, lq1⟩ := obj_cells hO1
  have HO1 := Lib.hid hO1
  have HP := Lib.hid hP
  clear hO1 hP hst c3 c4
  go_wp2_with fail
  refine wp_world ?_
  intro W hW
  have hOW : W.heap[a]? = some (.cells #[.int .i64 x.left, .slice A x.shelf.length cc, .func fnn ff fc, .iface 324 (.pointer (some ⟨tb, 0, none⟩)), .int .i64 y.st, .int .u32 y.told] 334 (0, 0)) := by rw [hW]; exact hp_same _ _ 5 (.int .u32 y.told) (hp_same _ _ 4 (.int .i64 y.st) HO1.out)
  have hKW : Kp (fun k => k = a) w1 W := by rw [hW]; exact Kp.st (S := fun k => k = a) (Kp.st (S := fun k => k = a) (Kp.refl _ _) (.inl rfl) 4 _) (.inl rfl) 5 _
  obtain ⟨q2, fq2, lq2⟩ := obj_cells hOW
  have d4 : W.cell? ⟨a, 4, none⟩ = some (.int .i64 y.st) := q2 4
  have d5 : W.cell? ⟨a, 5, none⟩ = some (.int .u32 y.told) := q2 5
  have HOW := Lib.hid hOW
  have HKW := Lib.hid hKW
  clear hW hOW hKW q1 fq1 q2 fq2
  go_region_held3 (fun w' => w'.cell? ⟨a, 4, none⟩ = some (.int .i64 y.st) ∧ w'.cell? ⟨a, 5, none⟩ = some (.int .u32 y.told)) (exact ⟨d4, d5⟩) (fail)
  go_wp2
  go_ret2
  exact ⟨rfl, Post.outer hb hA (fun _ h => h.1) HP.out (HKW.out.drew.mono (fun k e => by rw [e]; exact hFa)) (fun F1 F' g1 g2 g3 g4 g5 g6 => (HI.out w1 W F1 F' x.left y.st y.told (.iface 324 (.pointer (some ⟨tb, 0, none⟩))) (some y) g6 (fun h => by rcases g1 _ h with h | h; exact hna h; omega) g2 g3 (fun k cs u hFk hh hu => g5.heap hh (by rintro (h | h); (rcases hu with hu | hu <;> subst hu <;> exact not_tlBlk hh (by decide) (by decide) (by decide) (by decide) (by decide) h); exact hA.ne k hFk h)) HKW.out g6.told HOW.out (.inr ⟨rfl, rfl⟩)).kept (fun _ _ _ h => h) (fun _ h => h))⟩
theorem tries_goOn_give (w : World) (b : MB) (σ : MemS) (hb : MemAt w b σ) (hfn : σ.notes.length < 1000000000) (F : Nat → Prop) (hA : Apart w b F) (a : Nat) (n : Int) (x : TR) (hx : TRAt w F a (some n) x) (hs : x.st = 0) (t : TL) (hn : x.now = some t) :
  Calls Tryz.prog 248 #[.pointer (some ⟨a, 0, none⟩), .pointer (some ⟨b.m, 0, none⟩)] w (TriesPost w b F a (some n) (x.goOn σ).1 (x.goOn σ).2) := by
 have hk := hx.kindN t hn
 have hFa := hx.own
 obtain ⟨sv, fv, nv, ho, h1, h2, h3⟩ := hx.obj
 rw [hn] at h3
 obtain ⟨tb, rfl, ht⟩ := h3
 rw [hk] at ho
 have ho1 : w.heap[a]? = some (.cells #[.int .i64 x.left, sv, fv, .iface 379 (.pointer (some ⟨tb, 0, none⟩)), .int .i64 0, .int .u32 x.i, .int .u32 n] 370 (0, 0)) := by have := ho; simp only [trCells, trTy, hs] at this; exact this
 obtain ⟨q, fq, lq⟩ := obj_cells ho1
 have c3 : w.cell? ⟨a, 3, none⟩ = some (.iface 379 (.pointer (some ⟨tb, 0, none⟩))) := q 3
 have c4 : w.cell? ⟨a, 4, none⟩ = some (.int .i64 0) := q 4
 have hst := Give_Step w b σ hb hfn (tlBlk w F) (hA.small (fun _ h => h.1)) tb t ht.small
 have hna : ¬ tlBlk w F a := not_tlBlk ho1 (by decide) (by decide) (by decide) (by decide) (by decide)
 have hba : ¬ b.has a := hA.ne a hFa
 have HO := Lib.hid ho1
 obtain ⟨A, cc, rfl⟩ := row_slice h1.row
 have hap := of_ap ho hx.ap
 have hfc : ∃ fnn ff fc, fv = .func fnn ff fc := by
  unfold FreshFn at h2
  split at h2
  ·obtain ⟨_, _, rfl, _⟩ := h2; exact ⟨_, _, _, rfl⟩
  ·obtain ⟨_, _, _, _, rfl, _⟩ := h2; exact ⟨_, _, _, rfl⟩
 obtain ⟨fnn, ff, fc, rfl⟩ := hfc
 have hkr := hx.right
 have hkk := hx.kind
 have hrf := hx.rf
 have hgo : x.goOn σ = (if (t.step σ).1.st = 3 then ({ x with now := none, st := if x.left = 0 then 6 else 0, i := (t.step σ).1.told, left := wrap64 (x.left - 1) }, (t.step σ).2) else ({ x with now := some (t.step σ).1, st := (t.step σ).1.st, i := (t.step σ).1.told }, (t.step σ).2)) := by
  unfold TR.goOn
  rw [if_neg (by simp [hs]), hn]
  rfl
 have htk := TL.step_kind t σ
 generalize t.step σ = r at *
 obtain ⟨y, σ'⟩ := r
 simp only at hst hgo htk
 rw [hgo]
 clear hgo q fq ho ho1 hn
 have hty : 0 ≤ y.told ∧ y.told < 4294967296 ∨ True := .inr trivial
 have hin : ∀ (w1 W : World) (F1 F' : Nat → Prop) (left st i : Int) (nv : Value) (nw : Option TL), TLAt w1 F1 tb y → ¬ F1 a → (∀ k, F1 k → F' k) → (∀ k, F k → F' k) → (∀ k cs u, F k → w.heap[k]? = some (.cells cs u (0, 0)) → (u = 32 ∨ u = 30) → w1.heap[k]? = some (.cells cs u (0, 0))) → Kp (fun k => k = a) w1 W → 0 ≤ i ∧ i < 4294967296 → W.heap[a]? = some (.cells #[.int .i64 left, .slice A x.shelf.length cc, .func fnn ff fc, nv, .int .i64 st, .int .u32 i, .int .u32 n] 370 (0, 0)) → (nw = none ∧ nv = .nilIface ∨ nw = some y ∧ nv = .iface 379 (.pointer (some ⟨tb, 0, none⟩))) →
   TRAt W F' a (some n) { x with now := nw, st := st, i := i, left := left } := by
  intro w1 W F1 F' left st i nv nw hy hF1a hF1 hF hk1 hk2 hi hob hnw
  have hkeep : ∀ k cs u, F k → w.heap[k]? = some (.cells cs u (0, 0)) → (u = 32 ∨ u = 30) → W.heap[k]? = some (.cells cs u (0, 0)) := by
   intro k cs u hFk hh hu
   have h1' : w1.heap[k]? = some (.cells cs u (0, 0)) := hk1 k cs u hFk hh hu
   exact hk2.heap h1' (fun e => by
    subst e
    have := HO.out
    rw [hh] at this
    injection this with this
    injection this with _ hu'
    rcases hu with hu | hu <;> subst hu <;> exact absurd hu' (by decide))
  refine ⟨hF _ hFa, ⟨_, _, nv, hob, h1.kept' (fun k cs u hf hh hu => hkeep k cs u hf hh (.inr hu)) hF, h2.kept' hkeep hF, ?_⟩, hkk, ?_, hkr, hi, hrf, ap_of (σ := { x with now := nw, st := st, i := i, left := left }) (nd := (some n)) hob hap⟩
  ·rcases hnw with ⟨rfl, rfl⟩ | ⟨rfl, rfl⟩
   ·rfl
   ·refine ⟨tb, by rw [htk, hk]; rfl, ?_⟩
    exact hy.kept (fun k o hk' ho' => hk2.heap ho' (fun e => by
     subst e
     exact hF1a hk')) hF1
  ·intro z hz
   rcases hnw with ⟨rfl, _⟩ | ⟨rfl, _⟩
   ·cases hz
   ·injection hz with hz; rw [← hz, htk, hk]
 have HI := Lib.hid hin
 clear hin h1 h2 ht hkr hkk hrf hty
 by_cases h3 : y.st = 3
 ·by_cases hl : x.left = 0
  ·skip
   have t3 : (y.st == 3) = true := by rw [h3]; rfl
   have t4 : (x.left == 0) = true := by rw [hl]; rfl
   rw [if_pos h3, if_pos hl]
   clear h3 hl
   go_enter Tryz.func248, Tryz.ntmps248
   go_wp2_with fail
   refine hst.mono ?_
   rintro e w1 ⟨rfl, hP⟩
   have hkp : Kp (fun k => tlBlk w F k ∨ b.has k) w w1 := by obtain ⟨_, _, _, hk, _⟩ := hP; exact hk
   have hO1 := hkp.heap HO.out (by rintro (h | h); exact hna h; exact hba h)
   obtain ⟨q1, fq1, lq1⟩ := obj_cells hO1
   have HO1 := Lib.hid hO1
   have HP := Lib.hid hP
   clear hO1 hP hst c3 c4
   go_wp2_with fail
   refine wp_world ?_
   intro W hW
   have hOW : W.heap[a]? = some (.cells #[.int .i64 (wrap64 (x.left - 1)), .slice A x.shelf.length cc, .func fnn ff fc, .nilIface, .int .i64 6, .int .u32 y.told, .int .u32 n] 370 (0, 0)) := by rw [hW]; exact hp_same _ _ 0 (.int .i64 (wrap64 (x.left - 1))) (hp_same _ _ 4 (.int .i64 6) (hp_same _ _ 4 (.int .i64 0) (hp_same _ _ 3 .nilIface (hp_same _ _ 5 (.int .u32 y.told) (hp_same _ _ 4 (.int .i64 y.st) HO1.out)))))
   have hKW : Kp (fun k => k = a) w1 W := by rw [hW]; exact Kp.st (S := fun k => k = a) (Kp.st (S := fun k => k = a) (Kp.st (S := fun k => k = a) (Kp.st (S := fun k => k = a) (Kp.st (S := fun k => k = a) (Kp.st (S := fun k => k = a) (Kp.refl _ _) (.inl rfl) 4 _) (.inl rfl) 5 _) (.inl rfl) 3 _) (.inl rfl) 4 _) (.inl rfl) 4 _) (.inl rfl) 0 _
   obtain ⟨q2, fq2, lq2⟩ := obj_cells hOW
   have d4 : W.cell? ⟨a, 4, none⟩ = some (.int .i64 6) := q2 4
   have d5 : W.cell? ⟨a, 5, none⟩ = some (.int .u32 y.told) := q2 5
   have HOW := Lib.hid hOW
   have HKW := Lib.hid hKW
   clear hW hOW hKW q1 fq1 q2 fq2
   go_region_held3 (fun w' => w'.cell? ⟨a, 4, none⟩ = some (.int .i64 6) ∧ w'.cell? ⟨a, 5, none⟩ = some (.int .u32 y.told)) (exact ⟨d4, d5⟩) (fail)
   go_wp2
   go_ret2
   exact ⟨rfl, Post.outer hb hA (fun _ h => h.1) HP.out (HKW.out.drew.mono (fun k e => by rw [e]; exact hFa)) (fun F1 F' g1 g2 g3 g4 g5 g6 => (HI.out w1 W F1 F' (wrap64 (x.left - 1)) 6 y.told (.nilIface) none g6 (fun h => by rcases g1 _ h with h | h; exact hna h; omega) g2 g3 (fun k cs u hFk hh hu => g5.heap hh (by rintro (h | h); (rcases hu with hu | hu <;> subst hu <;> exact not_tlBlk hh (by decide) (by decide) (by decide) (by decide) (by decide) h); exact hA.ne k hFk h)) HKW.out g6.told HOW.out (.inl ⟨rfl, rfl⟩)).kept (fun _ _ _ h => h) (fun _ h => h))⟩
  ·skip
   have t3 : (y.st == 3) = true := by rw [h3]; rfl
   have t4 : (x.left == 0) = false := beq_eq_false_iff_ne.2 hl
   rw [if_pos h3, if_neg hl]
   clear h3 hl
   go_enter Tryz.func248, Tryz.ntmps248
   go_wp2_with fail
   refine hst.mono ?_
   rintro e w1 ⟨rfl, hP⟩
   have hkp : Kp (fun k => tlBlk w F k ∨ b.has k) w w1 := by obtain ⟨_, _, _, hk, _⟩ := hP; exact hk
   have hO1 := hkp.heap HO.out (by rintro (h | h); exact hna h; exact hba h)
   obtain ⟨q1, fq1, lq1⟩ := obj_cells hO1
   have HO1 := Lib.hid hO1
   have HP := Lib.hid hP
   clear hO1 hP hst c3 c4
   go_wp2_with fail
   refine wp_world ?_
   intro W hW
   have hOW : W.heap[a]? = some (.cells #[.int .i64 (wrap64 (x.left - 1)), .slice A x.shelf.length cc, .func fnn ff fc, .nilIface, .int .i64 0, .int .u32 y.told, .int .u32 n] 370 (0, 0)) := by rw [hW]; exact hp_same _ _ 0 (.int .i64 (wrap64 (x.left - 1))) (hp_same _ _ 4 (.int .i64 0) (hp_same _ _ 3 .nilIface (hp_same _ _ 5 (.int .u32 y.told) (hp_same _ _ 4 (.int .i64 y.st) HO1.out))))
   have hKW : Kp (fun k => k = a) w1 W := by rw [hW]; exact Kp.st (S := fun k => k = a) (Kp.st (S := fun k => k = a) (Kp.st (S := fun k => k = a) (Kp.st (S := fun k => k = a) (Kp.st (S := fun k => k = a) (Kp.refl _ _) (.inl rfl) 4 _) (.inl rfl) 5 _) (.inl rfl) 3 _) (.inl rfl) 4 _) (.inl rfl) 0 _
   obtain ⟨q2, fq2, lq2⟩ := obj_cells hOW
   have d4 : W.cell? ⟨a, 4, none⟩ = some (.int .i64 0) := q2 4
   have d5 : W.cell? ⟨a, 5, none⟩ = some (.int .u32 y.told) := q2 5
   have HOW := Lib.hid hOW
   have HKW := Lib.hid hKW
   clear hW hOW hKW q1 fq1 q2 fq2
   go_region_held3 (fun w' => w'.cell? ⟨a, 4, none⟩ = some (.int .i64 0) ∧ w'.cell? ⟨a, 5, none⟩ = some (.int .u32 y.told)) (exact ⟨d4, d5⟩) (fail)
   go_wp2
   go_ret2
   exact ⟨rfl, Post.outer hb hA (fun _ h => h.1) HP.out (HKW.out.drew.mono (fun k e => by rw [e]; exact hFa)) (fun F1 F' g1 g2 g3 g4 g5 g6 => (HI.out w1 W F1 F' (wrap64 (x.left - 1)) 0 y.told (.nilIface) none g6 (fun h => by rcases g1 _ h with h | h; exact hna h; omega) g2 g3 (fun k cs u hFk hh hu => g5.heap hh (by rintro (h | h); (rcases hu with hu | hu <;> subst hu <;> exact not_tlBlk hh (by decide) (by decide) (by decide) (by decide) (by decide) h); exact hA.ne k hFk h)) HKW.out g6.told HOW.out (.inl ⟨rfl, rfl⟩)).kept (fun _ _ _ h => h) (fun _ h => h))⟩
 ·skip
  have t3 : (y.st == 3) = false := beq_eq_false_iff_ne.2 h3
  rw [if_neg h3]
  clear h3
  go_enter Tryz.func248, Tryz.ntmps248
  go_wp2_with fail
  refine hst.mono ?_
  rintro e w1 ⟨rfl, hP⟩
  have hkp : Kp (fun k => tlBlk w F k ∨ b.has k) w w1 := by obtain ⟨_, _, _, hk, _⟩ := hP; exact hk
  have hO1 := hkp.heap HO.out (by rintro (h | h); exact hna h; exact hba h)
  obtain ⟨q1, fq1, lq1⟩ := obj_cells hO1
  have HO1 := Lib.hid hO1
  have HP := Lib.hid hP
  clear hO1 hP hst c3 c4
  go_wp2_with fail
  refine wp_world ?_
  intro W hW
  have hOW : W.heap[a]? = some (.cells #[.int .i64 x.left, .slice A x.shelf.length cc, .func fnn ff fc, .iface 379 (.pointer (some ⟨tb, 0, none⟩)), .int .i64 y.st, .int .u32 y.told, .int .u32 n] 370 (0, 0)) := by rw [hW]; exact hp_same _ _ 5 (.int .u32 y.told) (hp_same _ _ 4 (.int .i64 y.st) HO1.out)
  have hKW : Kp (fun k => k = a) w1 W := by rw [hW]; exact Kp.st (S := fun k => k = a) (Kp.st (S := fun k => k = a) (Kp.refl _ _) (.inl rfl) 4 _) (.inl rfl) 5 _
  obtain ⟨q2, fq2, lq2⟩ := obj_cells hOW
  have d4 : W.cell? ⟨a, 4, none⟩ = some (.int .i64 y.st) := q2 4
  have d5 : W.cell? ⟨a, 5, none⟩ = some (.int .u32 y.told) := q2 5
  have HOW := Lib.hid hOW
  have HKW := Lib.hid hKW
  clear hW hOW hKW q1 fq1 q2 fq2
  go_region_held3 (fun w' => w'.cell? ⟨a, 4, none⟩ = some (.int .i64 y.st) ∧ w'.cell? ⟨a, 5, none⟩ = some (.int .u32 y.told)) (exact ⟨d4, d5⟩) (fail)
  go_wp2
  go_ret2
  exact ⟨rfl, Post.outer hb hA (fun _ h => h.1) HP.out (HKW.out.drew.mono (fun k e => by rw [e]; exact hFa)) (fun F1 F' g1 g2 g3 g4 g5 g6 => (HI.out w1 W F1 F' x.left y.st y.told (.iface 379 (.pointer (some ⟨tb, 0, none⟩))) (some y) g6 (fun h => by rcases g1 _ h with h | h; exact hna h; omega) g2 g3 (fun k cs u hFk hh hu => g5.heap hh (by rintro (h | h); (rcases hu with hu | hu <;> subst hu <;> exact not_tlBlk hh (by decide) (by decide) (by decide) (by decide) (by decide) h); exact hA.ne k hFk h)) HKW.out g6.told HOW.out (.inr ⟨rfl, rfl⟩)).kept (fun _ _ _ h => h) (fun _ h => h))⟩
end Go.Proofs.YtgdoeoackhfikaaGreatDoor

namespace Go.Proofs.YtgdoeoackhfikaaGreatDoor
open Go.RowKit Go.Proofs.YtgdoeoackhfikaaGreatDoorW.PrintWords
set_option maxRecDepth 100000
set_option maxHeartbeats 4000000
set_option linter.unusedSimpArgs false
set_option linter.unusedVariables false
attribute [local go_sem] hs_other hs_alloc hs_falloc run_store_func run_makeFunc
attribute [local go_sem ↓] Go.wp_at_zero Go.wp_at_succ
theorem tries_goOn_take_new (w : World) (b : MB) (σ : MemS) (hb : MemAt w b σ) (hfn : σ.notes.length < 1000000000) (F : Nat → Prop) (hA : Apart w b F) (a : Nat) (x : TR) (hx : TRAt w F a none x) (hs : x.st = 0) (hn : x.now = none) :
  Calls Tryz.prog 248 #[.pointer (some ⟨a, 0, none⟩), .pointer (some ⟨b.m, 0, none⟩)] w (TriesPost w b F a none (x.goOn σ).1 (x.goOn σ).2) := by
 have hk := hx.kind
 have hFa := hx.own
 obtain ⟨sv, fv, nv, ho, h1, h2, h3⟩ := hx.obj
 rw [hn] at h3
 have hnv : nv = .nilIface := h3
 subst hnv
 have ho1 : w.heap[a]? = some (.cells #[.int .i64 x.left, sv, fv, .nilIface, .int .i64 0, .int .u32 x.i] 334 (0, 0)) := by have := ho; simp only [trCells, trTy, hs] at this; exact this
 obtain ⟨q, fq, lq⟩ := obj_cells ho1
 have c3 : w.cell? ⟨a, 3, none⟩ = some .nilIface := q 3
 have c4 : w.cell? ⟨a, 4, none⟩ = some (.int .i64 0) := q 4
 have hst := fun (W0 : World) (F0 : Nat → Prop) (tb : Nat) (h1 : MemAt W0 b σ) (hA0 : Apart W0 b F0) (ht : TLAt W0 F0 tb x.fresh) => Take_Step W0 b σ h1 hfn F0 hA0 tb x.fresh ht
 have hba : ¬ b.has a := hA.ne a hFa
 have HO := Lib.hid ho1
 obtain ⟨A, cc, rfl⟩ := row_slice h1.row
 have hap := of_ap ho hx.ap
 have h2' := h2
 unfold FreshFn at h2'
 rw [if_pos (by rw [hk]; rfl)] at h2'
 obtain ⟨bc, hFc, hfv, hbc, hxf⟩ := h2'
 have hfr := arena_fresh_take w bc x.fresh.c hx.right hbc
 rw [← hxf] at hfr
 have lbc := lt_of_heap hbc
 subst hfv
 have c2 : w.cell? ⟨a, 2, none⟩ = some (.func (.func 214) #[] #[.pointer (some ⟨bc, 0, none⟩)]) := q 2
 have hkr := hx.right
 have hkk := hx.kind
 have hrf := hx.rf
 have hgo : x.goOn σ = (if (x.fresh.step σ).1.st = 3 then ({ x with now := none, st := if x.left = 0 then 6 else 0, i := (x.fresh.step σ).1.told, left := wrap64 (x.left - 1) }, (x.fresh.step σ).2) else ({ x with now := some (x.fresh.step σ).1, st := (x.fresh.step σ).1.st, i := (x.fresh.step σ).1.told }, (x.fresh.step σ).2)) := by
  unfold TR.goOn
  rw [if_neg (by simp [hs]), hn]
  rfl
 have htk := TL.step_kind x.fresh σ
 generalize x.fresh.step σ = r at *
 obtain ⟨y, σ'⟩ := r
 simp only at hst hgo htk
 rw [hgo]
 clear hgo q fq ho ho1 hn
 have hty : 0 ≤ y.told ∧ y.told < 4294967296 ∨ True := .inr trivial
 have hin : ∀ (w1 W : World) (F1 F' : Nat → Prop) (left st i : Int) (nv : Value) (nw : Option TL) (tb : Nat), TLAt w1 F1 tb y → ¬ F1 a → (∀ k, F1 k → F' k) → (∀ k, F k → F' k) → (∀ k cs u, F k → w.heap[k]? = some (.cells cs u (0, 0)) → (u = 32 ∨ u = 30) → w1.heap[k]? = some (.cells cs u (0, 0))) → Kp (fun k => k = a) w1 W → 0 ≤ i ∧ i < 4294967296 → W.heap[a]? = some (.cells #[.int .i64 left, .slice A x.shelf.length cc, .func (.func 214) #[] #[.pointer (some ⟨bc, 0, none⟩)], nv, .int .i64 st, .int .u32 i] 334 (0, 0)) → (nw = none ∧ nv = .nilIface ∨ nw = some y ∧ nv = .iface 324 (.pointer (some ⟨tb, 0, none⟩))) →
   TRAt W F' a none { x with now := nw, st := st, i := i, left := left } := by
  intro w1 W F1 F' left st i nv nw tb hy hF1a hF1 hF hk1 hk2 hi hob hnw
  have hkeep : ∀ k cs u, F k → w.heap[k]? = some (.cells cs u (0, 0)) → (u = 32 ∨ u = 30) → W.heap[k]? = some (.cells cs u (0, 0)) := by
   intro k cs u hFk hh hu
   have h1' : w1.heap[k]? = some (.cells cs u (0, 0)) := hk1 k cs u hFk hh hu
   exact hk2.heap h1' (fun e => by
    subst e
    have := HO.out
    rw [hh] at this
    injection this with this
    injection this with _ hu'
    rcases hu with hu | hu <;> subst hu <;> exact absurd hu' (by decide))
  refine ⟨hF _ hFa, ⟨_, _, nv, hob, h1.kept' (fun k cs u hf hh hu => hkeep k cs u hf hh (.inr hu)) hF, h2.kept' hkeep hF, ?_⟩, hkk, ?_, hkr, hi, hrf, ap_of (σ := { x with now := nw, st := st, i := i, left := left }) (nd := none) hob hap⟩
  ·rcases hnw with ⟨rfl, rfl⟩ | ⟨rfl, rfl⟩
   ·rfl
   ·refine ⟨tb, by rw [htk, hk]; rfl, ?_⟩
    exact hy.kept (fun k o hk' ho' => hk2.heap ho' (fun e => by
     subst e
     exact hF1a hk')) hF1
  ·intro z hz
   rcases hnw with ⟨rfl, _⟩ | ⟨rfl, _⟩
   ·cases hz
   ·injection hz with hz; rw [← hz, htk, hk]
 have HI := Lib.hid hin
 clear hin h1 h2 hkr hkk hrf hty hxf
 by_cases h3 : y.st = 3
 ·by_cases hl : x.left = 0
  ·skip
   have t3 : (y.st == 3) = true := by rw [h3]; rfl
   have t4 : (x.left == 0) = true := by rw [hl]; rfl
   rw [if_pos h3, if_pos hl]
   clear h3 hl
   go_enter Tryz.func248, Tryz.ntmps248
   go_wp2_with fail
   refine hfr.mono ?_
   rintro e wN ⟨tb, rfl, htb, hkN, htN⟩
   have hON := hkN.heap HO.out (fun e => e)
   obtain ⟨qN, fqN, lqN⟩ := obj_cells hON
   have hO0 := hp_same _ _ 3 (.iface 324 (.pointer (some ⟨tb, 0, none⟩))) hON
   have hK0 : Kp (fun k => k = a) w (wN.setCell ⟨a, 3, none⟩ (.iface 324 (.pointer (some ⟨tb, 0, none⟩)))) := Kp.st (S := fun k => k = a) (hkN.mono (fun _ e => e.elim)) (.inl rfl) 3 _
   have hF0 : ∀ k, (w.heap.size ≤ k ∧ k < wN.heap.size) → w.heap.size ≤ k ∧ k < (wN.setCell ⟨a, 3, none⟩ (.iface 324 (.pointer (some ⟨tb, 0, none⟩)))).heap.size := fun k h => ⟨h.1, by simpa using h.2⟩
   have hb0 : MemAt (wN.setCell ⟨a, 3, none⟩ (.iface 324 (.pointer (some ⟨tb, 0, none⟩)))) b σ := hb.kept hK0 (fun k hk e => by subst e; exact hba hk)
   have hA0 : Apart (wN.setCell ⟨a, 3, none⟩ (.iface 324 (.pointer (some ⟨tb, 0, none⟩)))) b (fun k => w.heap.size ≤ k ∧ k < wN.heap.size) := ⟨fun k hk e => by have := hb.lt k e; omega, fun k hk => (hF0 k hk).2⟩
   have ht0 := htN.kept (W := wN.setCell ⟨a, 3, none⟩ (.iface 324 (.pointer (some ⟨tb, 0, none⟩)))) (F' := fun k => w.heap.size ≤ k ∧ k < wN.heap.size) (fun k o hk ho => (hp_other _ ⟨a, 3, none⟩ _ _ (by show k ≠ a; omega)).trans ho) (fun _ h => h)
   have hst' := hst _ _ tb hb0 hA0 ht0
   have HK0 : Hid (Kp F w (wN.setCell ⟨a, 3, none⟩ (.iface 324 (.pointer (some ⟨tb, 0, none⟩))))) := hK0.mono (fun k e => by rw [e]; exact hFa)
   have HKK : Hid (∀ k cs u, F k → w.heap[k]? = some (.cells cs u (0, 0)) → (u = 32 ∨ u = 30) → (wN.setCell ⟨a, 3, none⟩ (.iface 324 (.pointer (some ⟨tb, 0, none⟩)))).heap[k]? = some (.cells cs u (0, 0))) := fun k cs u _ hh hu => hK0.heap hh (fun e => by
    subst e
    have := HO.out
    rw [hh] at this
    injection this with this
    injection this with _ hu'
    rcases hu with hu | hu <;> subst hu <;> exact absurd hu' (by decide))
   have HF0 := Lib.hid hF0
   have HO0 := Lib.hid hO0
   clear hst hON hO0 hK0 hF0 hb0 hA0 ht0 htN hfr
   go_wp2_with fail
   refine hst'.mono ?_
   rintro e w1 ⟨rfl, hP⟩
   have hkp : Kp (fun k => (w.heap.size ≤ k ∧ k < wN.heap.size) ∨ b.has k) (wN.setCell ⟨a, 3, none⟩ (.iface 324 (.pointer (some ⟨tb, 0, none⟩)))) w1 := by obtain ⟨_, _, _, hk, _⟩ := hP; exact hk
   have hO1 := hkp.heap HO0.out (by rintro (h | h); omega; exact hba h)
   obtain ⟨q1, fq1, lq1⟩ := obj_cells hO1
   have HO1 := Lib.hid hO1
   have HP := Lib.hid hP
   clear hO1 hP hst' c2 c3 c4 qN fqN
   go_wp2_with fail
   refine wp_world ?_
   intro W hW
   have hOW : W.heap[a]? = some (.cells #[.int .i64 (wrap64 (x.left - 1)), .slice A x.shelf.length cc, .func (.func 214) #[] #[.pointer (some ⟨bc, 0, none⟩)], .nilIface, .int .i64 6, .int .u32 y.told] 334 (0, 0)) := by rw [hW]; exact hp_same _ _ 0 (.int .i64 (wrap64 (x.left - 1))) (hp_same _ _ 4 (.int .i64 6) (hp_same _ _ 4 (.int .i64 0) (hp_same _ _ 3 .nilIface (hp_same _ _ 5 (.int .u32 y.told) (hp_same _ _ 4 (.int .i64 y.st) HO1.out)))))
   have hKW : Kp (fun k => k = a) w1 W := by rw [hW]; exact Kp.st (S := fun k => k = a) (Kp.st (S := fun k => k = a) (Kp.st (S := fun k => k = a) (Kp.st (S := fun k => k = a) (Kp.st (S := fun k => k = a) (Kp.st (S := fun k => k = a) (Kp.refl _ _) (.inl rfl) 4 _) (.inl rfl) 5 _) (.inl rfl) 3 _) (.inl rfl) 4 _) (.inl rfl) 4 _) (.inl rfl) 0 _
   obtain ⟨q2, fq2, lq2⟩ := obj_cells hOW
   have d4 : W.cell? ⟨a, 4, none⟩ = some (.int .i64 6) := q2 4
   have d5 : W.cell? ⟨a, 5, none⟩ = some (.int .u32 y.told) := q2 5
   have HOW := Lib.hid hOW
   have HKW := Lib.hid hKW
   clear hW hOW hKW q1 fq1 q2 fq2
   go_region_held3 (fun w' => w'.cell? ⟨a, 4, none⟩ = some (.int .i64 6) ∧ w'.cell? ⟨a, 5, none⟩ = some (.int .u32 y.told)) (exact ⟨d4, d5⟩) (fail)
   go_wp2
   go_ret2
   exact ⟨rfl, Post.outer2 hb hA HK0.out (fun k h => .inr (HF0.out k h)) HP.out (HKW.out.drew.mono (fun k e => by rw [e]; exact hFa)) (fun F1 F' g1 g2 g3 g3' g4 g5 g6 => (HI.out w1 W F1 F' (wrap64 (x.left - 1)) 6 y.told (.nilIface) none tb g6 (fun h => by rcases g1 _ h with h | h; (have := HF0.out a h; omega); (rw [World.size_setCell] at h; omega)) g2 g3 (fun k cs u hFk hh hu => g5.heap (HKK.out k cs u hFk hh hu) (by rintro (h | h); (have h1 := HF0.out k h; have h2 := hA.lt k hFk; omega); exact hA.ne k hFk h)) HKW.out g6.told HOW.out (.inl ⟨rfl, rfl⟩)).kept (fun _ _ _ h => h) (fun _ h => h))⟩
  ·skip
   have t3 : (y.st == 3) = true := by rw [h3]; rfl
   have t4 : (x.left == 0) = false := beq_eq_false_iff_ne.2 hl
   rw [if_pos h3, if_neg hl]
   clear h3 hl
   go_enter Tryz.func248, Tryz.ntmps248
   go_wp2_with fail
   refine hfr.mono ?_
   rintro e wN ⟨tb, rfl, htb, hkN, htN⟩
   have hON := hkN.heap HO.out (fun e => e)
   obtain ⟨qN, fqN, lqN⟩ := obj_cells hON
   have hO0 := hp_same _ _ 3 (.iface 324 (.pointer (some ⟨tb, 0, none⟩))) hON
   have hK0 : Kp (fun k => k = a) w (wN.setCell ⟨a, 3, none⟩ (.iface 324 (.pointer (some ⟨tb, 0, none⟩)))) := Kp.st (S := fun k => k = a) (hkN.mono (fun _ e => e.elim)) (.inl rfl) 3 _
   have hF0 : ∀ k, (w.heap.size ≤ k ∧ k < wN.heap.size) → w.heap.size ≤ k ∧ k < (wN.setCell ⟨a, 3, none⟩ (.iface 324 (.pointer (some ⟨tb, 0, none⟩)))).heap.size := fun k h => ⟨h.1, by simpa using h.2⟩
   have hb0 : MemAt (wN.setCell ⟨a, 3, none⟩ (.iface 324 (.pointer (some ⟨tb, 0, none⟩)))) b σ := hb.kept hK0 (fun k hk e => by subst e; exact hba hk)
   have hA0 : Apart (wN.setCell ⟨a, 3, none⟩ (.iface 324 (.pointer (some ⟨tb, 0, none⟩)))) b (fun k => w.heap.size ≤ k ∧ k < wN.heap.size) := ⟨fun k hk e => by have := hb.lt k e; omega, fun k hk => (hF0 k hk).2⟩
   have ht0 := htN.kept (W := wN.setCell ⟨a, 3, none⟩ (.iface 324 (.pointer (some ⟨tb, 0, none⟩)))) (F' := fun k => w.heap.size ≤ k ∧ k < wN.heap.size) (fun k o hk ho => (hp_other _ ⟨a, 3, none⟩ _ _ (by show k ≠ a; omega)).trans ho) (fun _ h => h)
   have hst' := hst _ _ tb hb0 hA0 ht0
   have HK0 : Hid (Kp F w (wN.setCell ⟨a, 3, none⟩ (.iface 324 (.pointer (some ⟨tb, 0, none⟩))))) := hK0.mono (fun k e => by rw [e]; exact hFa)
   have HKK : Hid (∀ k cs u, F k → w.heap[k]? = some (.cells cs u (0, 0)) → (u = 32 ∨ u = 30) → (wN.setCell ⟨a, 3, none⟩ (.iface 324 (.pointer (some ⟨tb, 0, none⟩)))).heap[k]? = some (.cells cs u (0, 0))) := fun k cs u _ hh hu => hK0.heap hh (fun e => by
    subst e
    have := HO.out
    rw [hh] at this
    injection this with this
    injection this with _ hu'
    rcases hu with hu | hu <;> subst hu <;> exact absurd hu' (by decide))
   have HF0 := Lib.hid hF0
   have HO0 := Lib.hid hO0
   clear hst hON hO0 hK0 hF0 hb0 hA0 ht0 htN hfr
   go_wp2_with fail
   refine hst'.mono ?_
   rintro e w1 ⟨rfl, hP⟩
   have hkp : Kp (fun k => (w.heap.size ≤ k ∧ k < wN.heap.size) ∨ b.has k) (wN.setCell ⟨a, 3, none⟩ (.iface 324 (.pointer (some ⟨tb, 0, none⟩)))) w1 := by obtain ⟨_, _, _, hk, _⟩ := hP; exact hk
   have hO1 := hkp.heap HO0.out (by rintro (h | h); omega; exact hba h)
   obtain ⟨q1, fq1, lq1⟩ := obj_cells hO1
   have HO1 := Lib.hid hO1
   have HP := Lib.hid hP
   clear hO1 hP hst' c2 c3 c4 qN fqN
   go_wp2_with fail
   refine wp_world ?_
   intro W hW
   have hOW : W.heap[a]? = some (.cells #[.int .i64 (wrap64 (x.left - 1)), .slice A x.shelf.length cc, .func (.func 214) #[] #[.pointer (some ⟨bc, 0, none⟩)], .nilIface, .int .i64 0, .int .u32 y.told] 334 (0, 0)) := by rw [hW]; exact hp_same _ _ 0 (.int .i64 (wrap64 (x.left - 1))) (hp_same _ _ 4 (.int .i64 0) (hp_same _ _ 3 .nilIface (hp_same _ _ 5 (.int .u32 y.told) (hp_same _ _ 4 (.int .i64 y.st) HO1.out))))
   have hKW : Kp (fun k => k = a) w1 W := by rw [hW]; exact Kp.st (S := fun k => k = a) (Kp.st (S := fun k => k = a) (Kp.st (S := fun k => k = a) (Kp.st (S := fun k => k = a) (Kp.st (S := fun k => k = a) (Kp.refl _ _) (.inl rfl) 4 _) (.inl rfl) 5 _) (.inl rfl) 3 _) (.inl rfl) 4 _) (.inl rfl) 0 _
   obtain ⟨q2, fq2, lq2⟩ := obj_cells hOW
   have d4 : W.cell? ⟨a, 4, none⟩ = some (.int .i64 0) := q2 4
   have d5 : W.cell? ⟨a, 5, none⟩ = some (.int .u32 y.told) := q2 5
   have HOW := Lib.hid hOW
   have HKW := Lib.hid hKW
   clear hW hOW hKW q1 fq1 q2 fq2
   go_region_held3 (fun w' => w'.cell? ⟨a, 4, none⟩ = some (.int .i64 0) ∧ w'.cell? ⟨a, 5, none⟩ = some (.int .u32 y.told)) (exact ⟨d4, d5⟩) (fail)
   go_wp2
   go_ret2
   exact ⟨rfl, Post.outer2 hb hA HK0.out (fun k h => .inr (HF0.out k h)) HP.out (HKW.out.drew.mono (fun k e => by rw [e]; exact hFa)) (fun F1 F' g1 g2 g3 g3' g4 g5 g6 => (HI.out w1 W F1 F' (wrap64 (x.left - 1)) 0 y.told (.nilIface) none tb g6 (fun h => by rcases g1 _ h with h | h; (have := HF0.out a h; omega); (rw [World.size_setCell] at h; omega)) g2 g3 (fun k cs u hFk hh hu => g5.heap (HKK.out k cs u hFk hh hu) (by rintro (h | h); (have h1 := HF0.out k h; have h2 := hA.lt k hFk; omega); exact hA.ne k hFk h)) HKW.out g6.told HOW.out (.inl ⟨rfl, rfl⟩)).kept (fun _ _ _ h => h) (fun _ h => h))⟩
 ·skip
  have t3 : (y.st == 3) = false := beq_eq_false_iff_ne.2 h3
  rw [if_neg h3]
  clear h3
  go_enter Tryz.func248, Tryz.ntmps248
  go_wp2_with fail
  refine hfr.mono ?_
  rintro e wN ⟨tb, rfl, htb, hkN, htN⟩
  have hON := hkN.heap HO.out (fun e => e)
  obtain ⟨qN, fqN, lqN⟩ := obj_cells hON
  have hO0 := hp_same _ _ 3 (.iface 324 (.pointer (some ⟨tb, 0, none⟩))) hON
  have hK0 : Kp (fun k => k = a) w (wN.setCell ⟨a, 3, none⟩ (.iface 324 (.pointer (some ⟨tb, 0, none⟩)))) := Kp.st (S := fun k => k = a) (hkN.mono (fun _ e => e.elim)) (.inl rfl) 3 _
  have hF0 : ∀ k, (w.heap.size ≤ k ∧ k < wN.heap.size) → w.heap.size ≤ k ∧ k < (wN.setCell ⟨a, 3, none⟩ (.iface 324 (.pointer (some ⟨tb, 0, none⟩)))).heap.size := fun k h => ⟨h.1, by simpa using h.2⟩
  have hb0 : MemAt (wN.setCell ⟨a, 3, none⟩ (.iface 324 (.pointer (some ⟨tb, 0, none⟩)))) b σ := hb.kept hK0 (fun k hk e => by subst e; exact hba hk)
  have hA0 : Apart (wN.setCell ⟨a, 3, none⟩ (.iface 324 (.pointer (some ⟨tb, 0, none⟩)))) b (fun k => w.heap.size ≤ k ∧ k < wN.heap.size) := ⟨fun k hk e => by have := hb.lt k e; omega, fun k hk => (hF0 k hk).2⟩
  have ht0 := htN.kept (W := wN.setCell ⟨a, 3, none⟩ (.iface 324 (.pointer (some ⟨tb, 0, none⟩)))) (F' := fun k => w.heap.size ≤ k ∧ k < wN.heap.size) (fun k o hk ho => (hp_other _ ⟨a, 3, none⟩ _ _ (by show k ≠ a; omega)).trans ho) (fun _ h => h)
  have hst' := hst _ _ tb hb0 hA0 ht0
  have HK0 : Hid (Kp F w (wN.setCell ⟨a, 3, none⟩ (.iface 324 (.pointer (some ⟨tb, 0, none⟩))))) := hK0.mono (fun k e => by rw [e]; exact hFa)
  have HKK : Hid (∀ k cs u, F k → w.heap[k]? = some (.cells cs u (0, 0)) → (u = 32 ∨ u = 30) → (wN.setCell ⟨a, 3, none⟩ (.iface 324 (.pointer (some ⟨tb, 0, none⟩)))).heap[k]? = some (.cells cs u (0, 0))) := fun k cs u _ hh hu => hK0.heap hh (fun e => by
   subst e
   have := HO.out
   rw [hh] at this
   injection this with this
   injection this with _ hu'
   rcases hu with hu | hu <;> subst hu <;> exact absurd hu' (by decide))
  have HF0 := Lib.hid hF0
  have HO0 := Lib.hid hO0
  clear hst hON hO0 hK0 hF0 hb0 hA0 ht0 htN hfr
  go_wp2_with fail
  refine hst'.mono ?_
  rintro e w1 ⟨rfl, hP⟩
  have hkp : Kp (fun k => (w.heap.size ≤ k ∧ k < wN.heap.size) ∨ b.has k) (wN.setCell ⟨a, 3, none⟩ (.iface 324 (.pointer (some ⟨tb, 0, none⟩)))) w1 := by obtain ⟨_, _, _, hk, _⟩ := hP; exact hk
  have hO1 := hkp.heap HO0.out (by rintro (h | h); omega; exact hba h)
  obtain ⟨q1, fq1, lq1⟩ := obj_cells hO1
  have HO1 := Lib.hid hO1
  have HP := Lib.hid hP
  clear hO1 hP hst' c2 c3 c4 qN fqN
  go_wp2_with fail
  refine wp_world ?_
  intro W hW
  have hOW : W.heap[a]? = some (.cells #[.int .i64 x.left, .slice A x.shelf.length cc, .func (.func 214) #[] #[.pointer (some ⟨bc, 0, none⟩)], .iface 324 (.pointer (some ⟨tb, 0, none⟩)), .int .i64 y.st, .int .u32 y.told] 334 (0, 0)) := by rw [hW]; exact hp_same _ _ 5 (.int .u32 y.told) (hp_same _ _ 4 (.int .i64 y.st) HO1.out)
  have hKW : Kp (fun k => k = a) w1 W := by rw [hW]; exact Kp.st (S := fun k => k = a) (Kp.st (S := fun k => k = a) (Kp.refl _ _) (.inl rfl) 4 _) (.inl rfl) 5 _
  obtain ⟨q2, fq2, lq2⟩ := obj_cells hOW
  have d4 : W.cell? ⟨a, 4, none⟩ = some (.int .i64 y.st) := q2 4
  have d5 : W.cell? ⟨a, 5, none⟩ = some (.int .u32 y.told) := q2 5
  have HOW := Lib.hid hOW
  have HKW := Lib.hid hKW
  clear hW hOW hKW q1 fq1 q2 fq2
  go_region_held3 (fun w' => w'.cell? ⟨a, 4, none⟩ = some (.int .i64 y.st) ∧ w'.cell? ⟨a, 5, none⟩ = some (.int .u32 y.told)) (exact ⟨d4, d5⟩) (fail)
  go_wp2
  go_ret2
  exact ⟨rfl, Post.outer2 hb hA HK0.out (fun k h => .inr (HF0.out k h)) HP.out (HKW.out.drew.mono (fun k e => by rw [e]; exact hFa)) (fun F1 F' g1 g2 g3 g3' g4 g5 g6 => (HI.out w1 W F1 F' x.left y.st y.told (.iface 324 (.pointer (some ⟨tb, 0, none⟩))) (some y) tb g6 (fun h => by rcases g1 _ h with h | h; (have := HF0.out a h; omega); (rw [World.size_setCell] at h; omega)) g2 g3 (fun k cs u hFk hh hu => g5.heap (HKK.out k cs u hFk hh hu) (by rintro (h | h); (have h1 := HF0.out k h; have h2 := hA.lt k hFk; omega); exact hA.ne k hFk h)) HKW.out g6.told HOW.out (.inr ⟨rfl, rfl⟩)).kept (fun _ _ _ h => h) (fun _ h => h))⟩
theorem tries_goOn_give_new (w : World) (b : MB) (σ : MemS) (hb : MemAt w b σ) (hfn : σ.notes.length < 1000000000) (F : Nat → Prop) (hA : Apart w b F) (a : Nat) (n : Int) (x : TR) (hx : TRAt w F a (some n) x) (hs : x.st = 0) (hn : x.now = none) :
  Calls Tryz.prog 248 #[.pointer (some ⟨a, 0, none⟩), .pointer (some ⟨b.m, 0, none⟩)] w (TriesPost w b F a (some n) (x.goOn σ).1 (x.goOn σ).2) := by
 have hk := hx.kind
 have hFa := hx.own
 obtain ⟨sv, fv, nv, ho, h1, h2, h3⟩ := hx.obj
 rw [hn] at h3
 have hnv : nv = .nilIface := h3
 subst hnv
 have ho1 : w.heap[a]? = some (.cells #[.int .i64 x.left, sv, fv, .nilIface, .int .i64 0, .int .u32 x.i, .int .u32 n] 370 (0, 0)) := by have := ho; simp only [trCells, trTy, hs] at this; exact this
 obtain ⟨q, fq, lq⟩ := obj_cells ho1
 have c3 : w.cell? ⟨a, 3, none⟩ = some .nilIface := q 3
 have c4 : w.cell? ⟨a, 4, none⟩ = some (.int .i64 0) := q 4
 have hst := fun (W0 : World) (F0 : Nat → Prop) (tb : Nat) (h1 : MemAt W0 b σ) (hA0 : Apart W0 b F0) (ht : TLAt W0 F0 tb x.fresh) => Give_Step W0 b σ h1 hfn F0 hA0 tb x.fresh ht
 have hba : ¬ b.has a := hA.ne a hFa
 have HO := Lib.hid ho1
 obtain ⟨A, cc, rfl⟩ := row_slice h1.row
 have hap := of_ap ho hx.ap
 have h2' := h2
 unfold FreshFn at h2'
 rw [if_neg (by rw [hk]; simp)] at h2'
 obtain ⟨bc, bi, hFc, hFi, hfv, hbc, hbi, hxf⟩ := h2'
 have hfr := arena_fresh_give w bc bi x.fresh.c hx.right x.fresh.i hx.rf hbc hbi
 rw [← hxf] at hfr
 subst hfv
 have c2 : w.cell? ⟨a, 2, none⟩ = some (.func (.func 256) #[] #[.pointer (some ⟨bc, 0, none⟩), .pointer (some ⟨bi, 0, none⟩)]) := q 2
 have hkr := hx.right
 have hkk := hx.kind
 have hrf := hx.rf
 have hgo : x.goOn σ = (if (x.fresh.step σ).1.st = 3 then ({ x with now := none, st := if x.left = 0 then 6 else 0, i := (x.fresh.step σ).1.told, left := wrap64 (x.left - 1) }, (x.fresh.step σ).2) else ({ x with now := some (x.fresh.step σ).1, st := (x.fresh.step σ).1.st, i := (x.fresh.step σ).1.told }, (x.fresh.step σ).2)) := by
  unfold TR.goOn
  rw [if_neg (by simp [hs]), hn]
  rfl
 have htk := TL.step_kind x.fresh σ
 generalize x.fresh.step σ = r at *
 obtain ⟨y, σ'⟩ := r
 simp only at hst hgo htk
 rw [hgo]
 clear hgo q fq ho ho1 hn
 have hty : 0 ≤ y.told ∧ y.told < 4294967296 ∨ True := .inr trivial
 have hin : ∀ (w1 W : World) (F1 F' : Nat → Prop) (left st i : Int) (nv : Value) (nw : Option TL) (tb : Nat), TLAt w1 F1 tb y → ¬ F1 a → (∀ k, F1 k → F' k) → (∀ k, F k → F' k) → (∀ k cs u, F k → w.heap[k]? = some (.cells cs u (0, 0)) → (u = 32 ∨ u = 30) → w1.heap[k]? = some (.cells cs u (0, 0))) → Kp (fun k => k = a) w1 W → 0 ≤ i ∧ i < 4294967296 → W.heap[a]? = some (.cells #[.int .i64 left, .slice A x.shelf.length cc, .func (.func 256) #[] #[.pointer (some ⟨bc, 0, none⟩), .pointer (some ⟨bi, 0, none⟩)], nv, .int .i64 st, .int .u32 i, .int .u32 n] 370 (0, 0)) → (nw = none ∧ nv = .nilIface ∨ nw = some y ∧ nv = .iface 379 (.pointer (some ⟨tb, 0, none⟩))) →
   TRAt W F' a (some n) { x with now := nw, st := st, i := i, left := left } := by
  intro w1 W F1 F' left st i nv nw tb hy hF1a hF1 hF hk1 hk2 hi hob hnw
  have hkeep : ∀ k cs u, F k → w.heap[k]? = some (.cells cs u (0, 0)) → (u = 32 ∨ u = 30) → W.heap[k]? = some (.cells cs u (0, 0)) := by
   intro k cs u hFk hh hu
   have h1' : w1.heap[k]? = some (.cells cs u (0, 0)) := hk1 k cs u hFk hh hu
   exact hk2.heap h1' (fun e => by
    subst e
    have := HO.out
    rw [hh] at this
    injection this with this
    injection this with _ hu'
    rcases hu with hu | hu <;> subst hu <;> exact absurd hu' (by decide))
  refine ⟨hF _ hFa, ⟨_, _, nv, hob, h1.kept' (fun k cs u hf hh hu => hkeep k cs u hf hh (.inr hu)) hF, h2.kept' hkeep hF, ?_⟩, hkk, ?_, hkr, hi, hrf, ap_of (σ := { x with now := nw, st := st, i := i, left := left }) (nd := (some n)) hob hap⟩
  ·rcases hnw with ⟨rfl, rfl⟩ | ⟨rfl, rfl⟩
   ·rfl
   ·refine ⟨tb, by rw [htk, hk]; rfl, ?_⟩
    exact hy.kept (fun k o hk' ho' => hk2.heap ho' (fun e => by
     subst e
     exact hF1a hk')) hF1
  ·intro z hz
   rcases hnw with ⟨rfl, _⟩ | ⟨rfl, _⟩
   ·cases hz
   ·injection hz with hz; rw [← hz, htk, hk]
 have HI := Lib.hid hin
 clear hin h1 h2 hkr hkk hrf hty hxf
 by_cases h3 : y.st = 3
 ·by_cases hl : x.left = 0
  ·skip
   have t3 : (y.st == 3) = true := by rw [h3]; rfl
   have t4 : (x.left == 0) = true := by rw [hl]; rfl
   rw [if_pos h3, if_pos hl]
   clear h3 hl
   go_enter Tryz.func248, Tryz.ntmps248
   go_wp2_with fail
   refine hfr.mono ?_
   rintro e wN ⟨tb, rfl, htb, hkN, htN⟩
   have hON := hkN.heap HO.out (fun e => e)
   obtain ⟨qN, fqN, lqN⟩ := obj_cells hON
   have hO0 := hp_same _ _ 3 (.iface 379 (.pointer (some ⟨tb, 0, none⟩))) hON
   have hK0 : Kp (fun k => k = a) w (wN.setCell ⟨a, 3, none⟩ (.iface 379 (.pointer (some ⟨tb, 0, none⟩)))) := Kp.st (S := fun k => k = a) (hkN.mono (fun _ e => e.elim)) (.inl rfl) 3 _
   have hF0 : ∀ k, (w.heap.size ≤ k ∧ k < wN.heap.size) → w.heap.size ≤ k ∧ k < (wN.setCell ⟨a, 3, none⟩ (.iface 379 (.pointer (some ⟨tb, 0, none⟩)))).heap.size := fun k h => ⟨h.1, by simpa using h.2⟩
   have hb0 : MemAt (wN.setCell ⟨a, 3, none⟩ (.iface 379 (.pointer (some ⟨tb, 0, none⟩)))) b σ := hb.kept hK0 (fun k hk e => by subst e; exact hba hk)
   have hA0 : Apart (wN.setCell ⟨a, 3, none⟩ (.iface 379 (.pointer (some ⟨tb, 0, none⟩)))) b (fun k => w.heap.size ≤ k ∧ k < wN.heap.size) := ⟨fun k hk e => by have := hb.lt k e; omega, fun k hk => (hF0 k hk).2⟩
   have ht0 := htN.kept (W := wN.setCell ⟨a, 3, none⟩ (.iface 379 (.pointer (some ⟨tb, 0, none⟩)))) (F' := fun k => w.heap.size ≤ k ∧ k < wN.heap.size) (fun k o hk ho => (hp_other _ ⟨a, 3, none⟩ _ _ (by show k ≠ a; omega)).trans ho) (fun _ h => h)
   have hst' := hst _ _ tb hb0 hA0 ht0
   have HK0 : Hid (Kp F w (wN.setCell ⟨a, 3, none⟩ (.iface 379 (.pointer (some ⟨tb, 0, none⟩))))) := hK0.mono (fun k e => by rw [e]; exact hFa)
   have HKK : Hid (∀ k cs u, F k → w.heap[k]? = some (.cells cs u (0, 0)) → (u = 32 ∨ u = 30) → (wN.setCell ⟨a, 3, none⟩ (.iface 379 (.pointer (some ⟨tb, 0, none⟩)))).heap[k]? = some (.cells cs u (0, 0))) := fun k cs u _ hh hu => hK0.heap hh (fun e => by
    subst e
    have := HO.out
    rw [hh] at this
    injection this with this
    injection this with _ hu'
    rcases hu with hu | hu <;> subst hu <;> exact absurd hu' (by decide))
   have HF0 := Lib.hid hF0
   have HO0 := Lib.hid hO0
   clear hst hON hO0 hK0 hF0 hb0 hA0 ht0 htN hfr
   go_wp2_with fail
   refine hst'.mono ?_
   rintro e w1 ⟨rfl, hP⟩
   have hkp : Kp (fun k => (w.heap.size ≤ k ∧ k < wN.heap.size) ∨ b.has k) (wN.setCell ⟨a, 3, none⟩ (.iface 379 (.pointer (some ⟨tb, 0, none⟩)))) w1 := by obtain ⟨_, _, _, hk, _⟩ := hP; exact hk
   have hO1 := hkp.heap HO0.out (by rintro (h | h); omega; exact hba h)
   obtain ⟨q1, fq1, lq1⟩ := obj_cells hO1
   have HO1 := Lib.hid hO1
   have HP := Lib.hid hP
   clear hO1 hP hst' c2 c3 c4 qN fqN
   go_wp2_with fail
   refine wp_world ?_
   intro W hW
   have hOW : W.heap[a]? = some (.cells #[.int .i64 (wrap64 (x.left - 1)), .slice A x.shelf.length cc, .func (.func 256) #[] #[.pointer (some ⟨bc, 0, none⟩), .pointer (some ⟨bi, 0, none⟩)], .nilIface, .int .i64 6, .int .u32 y.told, .int .u32 n] 370 (0, 0)) := by rw [hW]; exact hp_same _ _ 0 (.int .i64 (wrap64 (x.left - 1))) (hp_same _ _ 4 (.int .i64 6) (hp_same _ _ 4 (.int .i64 0) (hp_same _ _ 3 .nilIface (hp_same _ _ 5 (.int .u32 y.told) (hp_same _ _ 4 (.int .i64 y.st) HO1.out)))))
   have hKW : Kp (fun k => k = a) w1 W := by rw [hW]; exact Kp.st (S := fun k => k = a) (Kp.st (S := fun k => k = a) (Kp.st (S := fun k => k = a) (Kp.st (S := fun k => k = a) (Kp.st (S := fun k => k = a) (Kp.st (S := fun k => k = a) (Kp.refl _ _) (.inl rfl) 4 _) (.inl rfl) 5 _) (.inl rfl) 3 _) (.inl rfl) 4 _) (.inl rfl) 4 _) (.inl rfl) 0 _
   obtain ⟨q2, fq2, lq2⟩ := obj_cells hOW
   have d4 : W.cell? ⟨a, 4, none⟩ = some (.int .i64 6) := q2 4
   have d5 : W.cell? ⟨a, 5, none⟩ = some (.int .u32 y.told) := q2 5
   have HOW := Lib.hid hOW
   have HKW := Lib.hid hKW
   clear hW hOW hKW q1 fq1 q2 fq2
   go_region_held3 (fun w' => w'.cell? ⟨a, 4, none⟩ = some (.int .i64 6) ∧ w'.cell? ⟨a, 5, none⟩ = some (.int .u32 y.told)) (exact ⟨d4, d5⟩) (fail)
   go_wp2
   go_ret2
   exact ⟨rfl, Post.outer2 hb hA HK0.out (fun k h => .inr (HF0.out k h)) HP.out (HKW.out.drew.mono (fun k e => by rw [e]; exact hFa)) (fun F1 F' g1 g2 g3 g3' g4 g5 g6 => (HI.out w1 W F1 F' (wrap64 (x.left - 1)) 6 y.told (.nilIface) none tb g6 (fun h => by rcases g1 _ h with h | h; (have := HF0.out a h; omega); (rw [World.size_setCell] at h; omega)) g2 g3 (fun k cs u hFk hh hu => g5.heap (HKK.out k cs u hFk hh hu) (by rintro (h | h); (have h1 := HF0.out k h; have h2 := hA.lt k hFk; omega); exact hA.ne k hFk h)) HKW.out g6.told HOW.out (.inl ⟨rfl, rfl⟩)).kept (fun _ _ _ h => h) (fun _ h => h))⟩
  ·skip
   have t3 : (y.st == 3) = true := by rw [h3]; rfl
   have t4 : (x.left == 0) = false := beq_eq_false_iff_ne.2 hl
   rw [if_pos h3, if_neg hl]
   clear h3 hl
   go_enter Tryz.func248, Tryz.ntmps248
   go_wp2_with fail
   refine hfr.mono ?_
   rintro e wN ⟨tb, rfl, htb, hkN, htN⟩
   have hON := hkN.heap HO.out (fun e => e)
   obtain ⟨qN, fqN, lqN⟩ := obj_cells hON
   have hO0 := hp_same _ _ 3 (.iface 379 (.pointer (some ⟨tb, 0, none⟩))) hON
   have hK0 : Kp (fun k => k = a) w (wN.setCell ⟨a, 3, none⟩ (.iface 379 (.pointer (some ⟨tb, 0, none⟩)))) := Kp.st (S := fun k => k = a) (hkN.mono (fun _ e => e.elim)) (.inl rfl) 3 _
   have hF0 : ∀ k, (w.heap.size ≤ k ∧ k < wN.heap.size) → w.heap.size ≤ k ∧ k < (wN.setCell ⟨a, 3, none⟩ (.iface 379 (.pointer (some ⟨tb, 0, none⟩)))).heap.size := fun k h => ⟨h.1, by simpa using h.2⟩
   have hb0 : MemAt (wN.setCell ⟨a, 3, none⟩ (.iface 379 (.pointer (some ⟨tb, 0, none⟩)))) b σ := hb.kept hK0 (fun k hk e => by subst e; exact hba hk)
   have hA0 : Apart (wN.setCell ⟨a, 3, none⟩ (.iface 379 (.pointer (some ⟨tb, 0, none⟩)))) b (fun k => w.heap.size ≤ k ∧ k < wN.heap.size) := ⟨fun k hk e => by have := hb.lt k e; omega, fun k hk => (hF0 k hk).2⟩
   have ht0 := htN.kept (W := wN.setCell ⟨a, 3, none⟩ (.iface 379 (.pointer (some ⟨tb, 0, none⟩)))) (F' := fun k => w.heap.size ≤ k ∧ k < wN.heap.size) (fun k o hk ho => (hp_other _ ⟨a, 3, none⟩ _ _ (by show k ≠ a; omega)).trans ho) (fun _ h => h)
   have hst' := hst _ _ tb hb0 hA0 ht0
   have HK0 : Hid (Kp F w (wN.setCell ⟨a, 3, none⟩ (.iface 379 (.pointer (some ⟨tb, 0, none⟩))))) := hK0.mono (fun k e => by rw [e]; exact hFa)
   have HKK : Hid (∀ k cs u, F k → w.heap[k]? = some (.cells cs u (0, 0)) → (u = 32 ∨ u = 30) → (wN.setCell ⟨a, 3, none⟩ (.iface 379 (.pointer (some ⟨tb, 0, none⟩)))).heap[k]? = some (.cells cs u (0, 0))) := fun k cs u _ hh hu => hK0.heap hh (fun e => by
    subst e
    have := HO.out
    rw [hh] at this
    injection this with this
    injection this with _ hu'
    rcases hu with hu | hu <;> subst hu <;> exact absurd hu' (by decide))
   have HF0 := Lib.hid hF0
   have HO0 := Lib.hid hO0
   clear hst hON hO0 hK0 hF0 hb0 hA0 ht0 htN hfr
   go_wp2_with fail
   refine hst'.mono ?_
   rintro e w1 ⟨rfl, hP⟩
   have hkp : Kp (fun k => (w.heap.size ≤ k ∧ k < wN.heap.size) ∨ b.has k) (wN.setCell ⟨a, 3, none⟩ (.iface 379 (.pointer (some ⟨tb, 0, none⟩)))) w1 := by obtain ⟨_, _, _, hk, _⟩ := hP; exact hk
   have hO1 := hkp.heap HO0.out (by rintro (h | h); omega; exact hba h)
   obtain ⟨q1, fq1, lq1⟩ := obj_cells hO1
   have HO1 := Lib.hid hO1
   have HP := Lib.hid hP
   clear hO1 hP hst' c2 c3 c4 qN fqN
   go_wp2_with fail
   refine wp_world ?_
   intro W hW
   have hOW : W.heap[a]? = some (.cells #[.int .i64 (wrap64 (x.left - 1)), .slice A x.shelf.length cc, .func (.func 256) #[] #[.pointer (some ⟨bc, 0, none⟩), .pointer (some ⟨bi, 0, none⟩)], .nilIface, .int .i64 0, .int .u32 y.told, .int .u32 n] 370 (0, 0)) := by rw [hW]; exact hp_same _ _ 0 (.int .i64 (wrap64 (x.left - 1))) (hp_same _ _ 4 (.int .i64 0) (hp_same _ _ 3 .nilIface (hp_same _ _ 5 (.int .u32 y.told) (hp_same _ _ 4 (.int .i64 y.st) HO1.out))))
   have hKW : Kp (fun k => k = a) w1 W := by rw [hW]; exact Kp.st (S := fun k => k = a) (Kp.st (S := fun k => k = a) (Kp.st (S := fun k => k = a) (Kp.st (S := fun k => k = a) (Kp.st (S := fun k => k = a) (Kp.refl _ _) (.inl rfl) 4 _) (.inl rfl) 5 _) (.inl rfl) 3 _) (.inl rfl) 4 _) (.inl rfl) 0 _
   obtain ⟨q2, fq2, lq2⟩ := obj_cells hOW
   have d4 : W.cell? ⟨a, 4, none⟩ = some (.int .i64 0) := q2 4
   have d5 : W.cell? ⟨a, 5, none⟩ = some (.int .u32 y.told) := q2 5
   have HOW := Lib.hid hOW
   have HKW := Lib.hid hKW
   clear hW hOW hKW q1 fq1 q2 fq2
   go_region_held3 (fun w' => w'.cell? ⟨a, 4, none⟩ = some (.int .i64 0) ∧ w'.cell? ⟨a, 5, none⟩ = some (.int .u32 y.told)) (exact ⟨d4, d5⟩) (fail)
   go_wp2
   go_ret2
   exact ⟨rfl, Post.outer2 hb hA HK0.out (fun k h => .inr (HF0.out k h)) HP.out (HKW.out.drew.mono (fun k e => by rw [e]; exact hFa)) (fun F1 F' g1 g2 g3 g3' g4 g5 g6 => (HI.out w1 W F1 F' (wrap64 (x.left - 1)) 0 y.told (.nilIface) none tb g6 (fun h => by rcases g1 _ h with h | h; (have := HF0.out a h; omega); (rw [World.size_setCell] at h; omega)) g2 g3 (fun k cs u hFk hh hu => g5.heap (HKK.out k cs u hFk hh hu) (by rintro (h | h); (have h1 := HF0.out k h; have h2 := hA.lt k hFk; omega); exact hA.ne k hFk h)) HKW.out g6.told HOW.out (.inl ⟨rfl, rfl⟩)).kept (fun _ _ _ h => h) (fun _ h => h))⟩
 ·skip
  have t3 : (y.st == 3) = false := beq_eq_false_iff_ne.2 h3
  rw [if_neg h3]
  clear h3
  go_enter Tryz.func248, Tryz.ntmps248
  go_wp2_with fail
  refine hfr.mono ?_
  rintro e wN ⟨tb, rfl, htb, hkN, htN⟩
  have hON := hkN.heap HO.out (fun e => e)
  obtain ⟨qN, fqN, lqN⟩ := obj_cells hON
  have hO0 := hp_same _ _ 3 (.iface 379 (.pointer (some ⟨tb, 0, none⟩))) hON
  have hK0 : Kp (fun k => k = a) w (wN.setCell ⟨a, 3, none⟩ (.iface 379 (.pointer (some ⟨tb, 0, none⟩)))) := Kp.st (S := fun k => k = a) (hkN.mono (fun _ e => e.elim)) (.inl rfl) 3 _
  have hF0 : ∀ k, (w.heap.size ≤ k ∧ k < wN.heap.size) → w.heap.size ≤ k ∧ k < (wN.setCell ⟨a, 3, none⟩ (.iface 379 (.pointer (some ⟨tb, 0, none⟩)))).heap.size := fun k h => ⟨h.1, by simpa using h.2⟩
  have hb0 : MemAt (wN.setCell ⟨a, 3, none⟩ (.iface 379 (.pointer (some ⟨tb, 0, none⟩)))) b σ := hb.kept hK0 (fun k hk e => by subst e; exact hba hk)
  have hA0 : Apart (wN.setCell ⟨a, 3, none⟩ (.iface 379 (.pointer (some ⟨tb, 0, none⟩)))) b (fun k => w.heap.size ≤ k ∧ k < wN.heap.size) := ⟨fun k hk e => by have := hb.lt k e; omega, fun k hk => (hF0 k hk).2⟩
  have ht0 := htN.kept (W := wN.setCell ⟨a, 3, none⟩ (.iface 379 (.pointer (some ⟨tb, 0, none⟩)))) (F' := fun k => w.heap.size ≤ k ∧ k < wN.heap.size) (fun k o hk ho => (hp_other _ ⟨a, 3, none⟩ _ _ (by show k ≠ a; omega)).trans ho) (fun _ h => h)
  have hst' := hst _ _ tb hb0 hA0 ht0
  have HK0 : Hid (Kp F w (wN.setCell ⟨a, 3, none⟩ (.iface 379 (.pointer (some ⟨tb, 0, none⟩))))) := hK0.mono (fun k e => by rw [e]; exact hFa)
  have HKK : Hid (∀ k cs u, F k → w.heap[k]? = some (.cells cs u (0, 0)) → (u = 32 ∨ u = 30) → (wN.setCell ⟨a, 3, none⟩ (.iface 379 (.pointer (some ⟨tb, 0, none⟩)))).heap[k]? = some (.cells cs u (0, 0))) := fun k cs u _ hh hu => hK0.heap hh (fun e => by
   subst e
   have := HO.out
   rw [hh] at this
   injection this with this
   injection this with _ hu'
   rcases hu with hu | hu <;> subst hu <;> exact absurd hu' (by decide))
  have HF0 := Lib.hid hF0
  have HO0 := Lib.hid hO0
  clear hst hON hO0 hK0 hF0 hb0 hA0 ht0 htN hfr
  go_wp2_with fail
  refine hst'.mono ?_
  rintro e w1 ⟨rfl, hP⟩
  have hkp : Kp (fun k => (w.heap.size ≤ k ∧ k < wN.heap.size) ∨ b.has k) (wN.setCell ⟨a, 3, none⟩ (.iface 379 (.pointer (some ⟨tb, 0, none⟩)))) w1 := by obtain ⟨_, _, _, hk, _⟩ := hP; exact hk
  have hO1 := hkp.heap HO0.out (by rintro (h | h); omega; exact hba h)
  obtain ⟨q1, fq1, lq1⟩ := obj_cells hO1
  have HO1 := Lib.hid hO1
  have HP := Lib.hid hP
  clear hO1 hP hst' c2 c3 c4 qN fqN
  go_wp2_with fail
  refine wp_world ?_
  intro W hW
  have hOW : W.heap[a]? = some (.cells #[.int .i64 x.left, .slice A x.shelf.length cc, .func (.func 256) #[] #[.pointer (some ⟨bc, 0, none⟩), .pointer (some ⟨bi, 0, none⟩)], .iface 379 (.pointer (some ⟨tb, 0, none⟩)), .int .i64 y.st, .int .u32 y.told, .int .u32 n] 370 (0, 0)) := by rw [hW]; exact hp_same _ _ 5 (.int .u32 y.told) (hp_same _ _ 4 (.int .i64 y.st) HO1.out)
  have hKW : Kp (fun k => k = a) w1 W := by rw [hW]; exact Kp.st (S := fun k => k = a) (Kp.st (S := fun k => k = a) (Kp.refl _ _) (.inl rfl) 4 _) (.inl rfl) 5 _
  obtain ⟨q2, fq2, lq2⟩ := obj_cells hOW
  have d4 : W.cell? ⟨a, 4, none⟩ = some (.int .i64 y.st) := q2 4
  have d5 : W.cell? ⟨a, 5, none⟩ = some (.int .u32 y.told) := q2 5
  have HOW := Lib.hid hOW
  have HKW := Lib.hid hKW
  clear hW hOW hKW q1 fq1 q2 fq2
  go_region_held3 (fun w' => w'.cell? ⟨a, 4, none⟩ = some (.int .i64 y.st) ∧ w'.cell? ⟨a, 5, none⟩ = some (.int .u32 y.told)) (exact ⟨d4, d5⟩) (fail)
  go_wp2
  go_ret2
  exact ⟨rfl, Post.outer2 hb hA HK0.out (fun k h => .inr (HF0.out k h)) HP.out (HKW.out.drew.mono (fun k e => by rw [e]; exact hFa)) (fun F1 F' g1 g2 g3 g3' g4 g5 g6 => (HI.out w1 W F1 F' x.left y.st y.told (.iface 379 (.pointer (some ⟨tb, 0, none⟩))) (some y) tb g6 (fun h => by rcases g1 _ h with h | h; (have := HF0.out a h; omega); (rw [World.size_setCell] at h; omega)) g2 g3 (fun k cs u hFk hh hu => g5.heap (HKK.out k cs u hFk hh hu) (by rintro (h | h); (have h1 := HF0.out k h; have h2 := hA.lt k hFk; omega); exact hA.ne k hFk h)) HKW.out g6.told HOW.out (.inr ⟨rfl, rfl⟩)).kept (fun _ _ _ h => h) (fun _ h => h))⟩
end Go.Proofs.YtgdoeoackhfikaaGreatDoor

namespace Go.Proofs.YtgdoeoackhfikaaGreatDoor
open Go.RowKit Go.Proofs.YtgdoeoackhfikaaGreatDoorW.PrintWords
set_option maxRecDepth 100000
set_option maxHeartbeats 4000000
set_option linter.unusedSimpArgs false
set_option linter.unusedVariables false
attribute [local go_sem] hs_other hs_alloc hs_falloc run_store_func run_makeFunc
attribute [local go_sem ↓] Go.wp_at_zero Go.wp_at_succ
theorem tries_goOn (w : World) (b : MB) (σ : MemS) (hb : MemAt w b σ) (hfn : σ.notes.length < 1000000000) (F : Nat → Prop) (hA : Apart w b F) (a : Nat) (nd : Option Int) (x : TR) (hx : TRAt w F a nd x) :
  Calls Tryz.prog 248 #[.pointer (some ⟨a, 0, none⟩), .pointer (some ⟨b.m, 0, none⟩)] w (TriesPost w b F a nd (x.goOn σ).1 (x.goOn σ).2) := by
 by_cases hs : x.st = 0
 ·cases nd with
  | none =>
   cases hn : x.now with
   | none => exact tries_goOn_take_new w b σ hb hfn F hA a x hx hs hn
   | some t => exact tries_goOn_take w b σ hb hfn F hA a x hx hs t hn
  | some n =>
   cases hn : x.now with
   | none => exact tries_goOn_give_new w b σ hb hfn F hA a n x hx hs hn
   | some t => exact tries_goOn_give w b σ hb hfn F hA a n x hx hs t hn
 ·exact tries_goOn_idle w b σ hb F hA a nd x hx hs
theorem arena_ends (w : World) (a : Nat) (s i : Int) (left sv fv nv st i0 : Value) (ty : TypeId) (rest : List Value) (ho : w.heap[a]? = some (.cells ([left, sv, fv, nv, st, i0] ++ rest).toArray ty (0, 0))) :
  Calls Tryz.prog 247 #[.pointer (some ⟨a, 0, none⟩), .int .i64 s, .int .u32 i] w fun e w' => e = .returned (.tuple #[.int .i64 s, .int .u32 i]) ∧ w' = (w.setCell ⟨a, 4, none⟩ (.int .i64 s)).setCell ⟨a, 5, none⟩ (.int .u32 i) := by
 obtain ⟨q, fq, lq⟩ := obj_cells ho
 have c4 : w.cell? ⟨a, 4, none⟩ = some st := by rw [q 4]; simp
 have c5 : w.cell? ⟨a, 5, none⟩ = some i0 := by rw [q 5]; simp
 clear q
 go_enter Tryz.func247, Tryz.ntmps247
 go_wp2
 go_ret2
 exact ⟨rfl, rfl⟩
theorem row_take {w : World} {base : Nat} {e : TypeId} {size n m g cap : Nat} {xs : List Value} (h : w.ownsRow base e size (.slice (some ⟨g, 0, none⟩) n cap) n xs) (hm : m ≤ n) : w.ownsRow base e size (.slice (some ⟨g, 0, none⟩) m cap) m (xs.take (m * size)) := by
 obtain ⟨h1, h2⟩ := h
 have hms : m * size ≤ n * size := Nat.mul_le_mul_right _ hm
 refine ⟨by rw [List.length_take, h1]; omega, ?_⟩
 rcases h2 with ⟨hv, _⟩ | ⟨g', cap', cur, hv, hb, hg, hn, hc, hs, ht⟩
 ·cases hv
 ·injection hv with ha _ hcap
  injection ha with ha
  injection ha with ha
  subst ha hcap
  refine .inr ⟨g, cap, cur, rfl, hb, hg, by omega, hc, hs, ?_⟩
  rw [← ht, List.take_take, Nat.min_eq_left hms]
theorem arena_Take_Step (w : World) (b : MB) (σ : MemS) (hb : MemAt w b σ) (hfn : σ.notes.length < 1000000000) (F : Nat → Prop) (hA : Apart w b F) (a : Nat) (x : TR) (hx : TRAt w F a none x) (hl : x.shelf.length ≤ 1000000) :
  Calls Tryz.prog 234 #[.pointer (some ⟨a, 0, none⟩), .pointer (some ⟨b.m, 0, none⟩)] w (TriesPost w b F a none (x.takeStep σ).1 (x.takeStep σ).2) := by
 have hgo := fun W (hk : Kp (fun _ => False) w W) => tries_goOn W b σ (hb.same hk) hfn F ⟨hA.ne, fun k h => Nat.lt_of_lt_of_le (hA.lt k h) hk.size⟩ a none x (hx.kept (fun k o _ ho => hk.heap ho (fun e => e)) (fun _ h => h))
 have hFa := hx.own
 obtain ⟨sv, fv, nv, ho, h1, h2, h3⟩ := hx.obj
 obtain ⟨q, fq, lq⟩ := obj_cells ho
 obtain ⟨A, cc, rfl⟩ := row_slice h1.row
 have c1 : w.cell? ⟨a, 1, none⟩ = some (.slice A x.shelf.length cc) := q 1
 have c4 : w.cell? ⟨a, 4, none⟩ = some (.int .i64 x.st) := q 4
 have f1 : w.frozen? ⟨a, 1, none⟩ = false := fq 1
 clear q fq
 by_cases hsh : x.shelf = []
 ·have e : x.takeStep σ = x.goOn σ := by unfold TR.takeStep; rw [if_neg (by simp [hsh])]
  rw [e]
  clear e
  have hlen : x.shelf.length = 0 := by rw [hsh]; rfl
  rw [hlen] at c1
  clear hsh hlen ho h1
  go_enter Tryz.func234, Tryz.ntmps234
  go_wp2_with fail
  refine (hgo w (Kp.refl _ _)).mono ?_
  rintro e w1 ⟨rfl, hP⟩
  go_wp2
  go_ret2
  exact ⟨rfl, hP⟩
 have hpos : 1 ≤ x.shelf.length := by
  cases hc : x.shelf with
  | nil => exact absurd hc hsh
  | cons a l => simp
 have hk0 : (0 : Int) ≤ (x.shelf.length : Int) - 1 := by omega
 by_cases hst : x.st = 0
 ·obtain ⟨g, rfl, hgo1, hgl⟩ : ∃ g, A = some ⟨g, 0, none⟩ ∧ F g ∧ (∀ j u, (nums .u32 x.shelf)[j]? = some u → w.cell? ⟨g, j, none⟩ = some u) := by
   rcases h1.row.2 with ⟨hv, _⟩ | ⟨g, cap, cur, hv, _⟩
   ·injection hv with _ hv; omega
   ·injection hv with hv
    subst hv
    exact ⟨g, rfl, h1.own g rfl, fun j u hj => row_one h1.row j u hj g rfl⟩
  have e : x.takeStep σ = ({ x with shelf := x.shelf.dropLast, st := 1, i := x.shelf.getLastD 0 }, σ) := by unfold TR.takeStep; rw [if_pos ⟨hsh, hst⟩]
  rw [e]
  clear e hgo
  have hlast : x.shelf.getLastD 0 = x.shelf.getD (x.shelf.length - 1) 0 := by
   rw [List.getLastD_eq_getLast?, List.getLast?_eq_getElem?, List.getD_eq_getElem?_getD]
  have hli : x.shelf.getLastD 0 ∈ x.shelf := by
   rw [hlast, List.getD_eq_getElem?_getD, List.getElem?_eq_getElem (by omega)]
   exact List.getElem_mem _
  have hir := h1.range _ hli
  have hcl : w.cell? ⟨g, x.shelf.length - 1, none⟩ = some (.int .u32 (x.shelf.getLastD 0)) := by
   refine hgl _ _ ?_
   rw [hlast]
   simp only [nums, List.getElem?_map, List.getD_eq_getElem?_getD]
   rw [List.getElem?_eq_getElem (show x.shelf.length - 1 < x.shelf.length by omega)]
   rfl
  rw [hst] at c4
  obtain ⟨n, hn⟩ : ∃ n, x.shelf.length = n + 1 := ⟨x.shelf.length - 1, by omega⟩
  rw [hn] at c1 hcl
  simp only [Nat.add_sub_cancel] at hcl
  generalize hz : x.shelf.getLastD 0 = z at *
  have hcc : n + 1 ≤ cc ∧ cc ≤ 9223372036854775807 := by
   rcases h1.row.2 with ⟨hv, _⟩ | ⟨g, cap, cur, hv, _, _, hv1, hv2, _⟩
   ·cases hv
   ·injection hv with _ _ hv
    subst hv
    unfold maxLen at hv2
    omega
  have HAP := Lib.hid (of_ap ho hx.ap)
  have HO := Lib.hid ho
  have H1 := Lib.hid h1
  have HN := Lib.hid hn
  have HZ := Lib.hid hz
  clear ho h1 hn hz hlast hli hgl hk0 hpos hsh
  go_enter Tryz.func234, Tryz.ntmps234
  go_wp2_with fail
  have hO2 := hp_same w a 1 (.slice (some ⟨g, 0, none⟩) n cc) HO.out
  refine (arena_ends _ a 1 z (.int .i64 x.left) (.slice (some ⟨g, 0, none⟩) n cc) fv nv (.int .i64 x.st) (.int .u32 x.i) 334 [] (by simpa [trCells, trTy] using hO2)).mono ?_
  rintro e w1 ⟨rfl, hw1'⟩
  have HW1 := Lib.hid hw1'
  clear hw1'
  go_wp2
  go_ret2
  have hw1 := HW1.out
  have hO3 := hp_same _ a 5 (.int .u32 z) (hp_same _ a 4 (.int .i64 1) hO2)
  rw [← hw1] at hO3
  have hKa : Kp (fun k => k = a) w w1 := by
   rw [hw1]
   exact Kp.st (S := fun k => k = a) (Kp.st (S := fun k => k = a) (Kp.st (S := fun k => k = a) (Kp.refl _ _) (.inl rfl) 1 _) (.inl rfl) 4 _) (.inl rfl) 5 _
  clear hw1
  have hkeep : ∀ k cs u, F k → w.heap[k]? = some (.cells cs u (0, 0)) → u ≠ 334 → w1.heap[k]? = some (.cells cs u (0, 0)) := fun k cs u _ hh hu => hKa.heap hh (fun e => by
   subst e
   exact ne_of_type hh HO.out hu rfl)
  refine ⟨rfl, Post.mk0 hb hA (hKa.mono (fun k e => by rw [e]; exact hFa)) (fun F' g1 g2 => ⟨g1 _ hFa, ⟨.slice (some ⟨g, 0, none⟩) n cc, fv, nv, hO3, ?_, ?_, ?_⟩, hx.kind, hx.kindN, hx.right, hir, hx.rf, ap_of (σ := { x with shelf := x.shelf.dropLast, st := 1, i := z }) (nd := none) (sv := .slice (some ⟨g, 0, none⟩) n cc) (fv := fv) (nv := nv) hO3 (fun K ff bc bi h e => HAP.out K ff bc bi h e)⟩)⟩
  ·have hs2 := H1.out.kept' (W := w1) (F' := F') (fun k cs u hf hh hu => hkeep k cs u hf hh (by rw [hu]; decide)) g1
   obtain ⟨hr, ho2, hra⟩ := hs2
   have hlen : x.shelf.dropLast.length = n := by rw [List.length_dropLast, HN.out]; rfl
   rw [HN.out] at hr
   refine ⟨?_, ho2, fun z hz => hra z ((List.dropLast_sublist _).subset hz)⟩
   rw [hlen]
   have e2 : nums .u32 x.shelf.dropLast = (nums .u32 x.shelf).take n := by
    rw [List.dropLast_eq_take, HN.out]
    simp [nums, List.map_take]
   rw [e2]
   have := row_take hr (show n ≤ n + 1 by omega)
   simpa using this
  ·exact h2.kept' (fun k cs u hf hh hu => hkeep k cs u hf hh (by rcases hu with hu | hu <;> rw [hu] <;> decide)) g1
  ·cases hn : x.now with
   | none => rw [hn] at h3; exact h3
   | some t =>
    rw [hn] at h3
    obtain ⟨tb, h4, h5⟩ := h3
    refine ⟨tb, h4, h5.small.kept (fun k o hk ho => hKa.heap ho (fun e => ?_)) (fun k hk => g1 _ hk.1)⟩
    subst e
    exact not_tlBlk HO.out (by decide) (by decide) (by decide) (by decide) (by decide) hk
 ·have e : x.takeStep σ = x.goOn σ := by unfold TR.takeStep; rw [if_neg (by simp [hst])]
  rw [e]
  clear e
  have t0 : (x.st == 0) = false := beq_eq_false_iff_ne.2 hst
  clear hsh hst ho h1
  go_enter Tryz.func234, Tryz.ntmps234
  go_wp2_with fail
  refine (hgo w (Kp.refl _ _)).mono ?_
  rintro e w1 ⟨rfl, hP⟩
  go_wp2
  go_ret2
  exact ⟨rfl, hP⟩
end Go.Proofs.YtgdoeoackhfikaaGreatDoor

namespace Go.Proofs.YtgdoeoackhfikaaGreatDoor
open Go.RowKit Go.Proofs.YtgdoeoackhfikaaGreatDoorW.PrintWords
set_option maxRecDepth 100000
set_option maxHeartbeats 4000000
set_option linter.unusedSimpArgs false
set_option linter.unusedVariables false
attribute [local go_sem] hs_other hs_alloc hs_falloc run_store_func run_makeFunc
attribute [local go_sem ↓] Go.wp_at_zero Go.wp_at_succ
theorem Post.trans {F : Nat → Prop} {w w1 w2 : World} {b : MB} {σ σ1 σ2 : MemS} {X : World → (Nat → Prop) → Prop} {nv1 : Value} (hb : MemAt w b σ) (hm1 : MemAt w1 { b with nv := nv1 } σ1) (hn1 : ∀ k, nv1.ownBlock = some k → b.nv.ownBlock = some k ∨ w.heap.size ≤ k) (hk1 : Kp (fun k => F k ∨ b.has k) w w1)
  (h2 : Post (grownF F w w1 nv1) w1 { b with nv := nv1 } σ2 w2 X) (hmono : ∀ W (F F' : Nat → Prop), (∀ k, F k → F' k) → X W F → X W F') : Post F w b σ2 w2 X := by
 obtain ⟨nv2, hm2, hn2, hk2, hx⟩ := h2
 have s1 := hk1.size
 have s2 := hk2.size
 refine ⟨nv2, hm2, fun k h => ?_, hk1.comp hk2 (fun k hk e => ?_), hmono _ _ _ (fun k h => ?_) hx⟩
 ·rcases hn2 k h with h | h
  ·exact hn1 k h
  ·exact .inr (by omega)
 ·rcases e with (e | ⟨e, _⟩) | e
  ·exact .inl e
  ·omega
  ·rcases e with e | e | e
   ·exact .inr (.inl e)
   ·exact .inr (.inr (.inl e))
   ·rcases hn1 k e with h | h
    ·exact .inr (.inr (.inr h))
    ·omega
 ·rcases h with (h | ⟨h1, h2, h3⟩) | ⟨h1, h2, h3⟩
  ·exact .inl h
  ·refine .inr ⟨h1, by omega, fun e => ?_⟩
   rcases hn2 k e with h | h
   ·exact h3 h
   ·omega
  ·exact .inr ⟨by omega, h2, h3⟩
theorem give_done {w1 W3 W5 : World} {b1 : MB} {σ' : MemS} {F1 : Nat → Prop} {a : Nat} {node : Int} {y : TR} (hnode : 0 ≤ node ∧ node < 4294967296) {A : Option Addr} {cc g' cap' : Nat} {fv nv : Value} (hm : MemAt w1 b1 σ') (hA1 : Apart w1 b1 F1) (hy : TRAt w1 F1 a (some node) y)
  (ho : w1.heap[a]? = some (.cells (trCells y (.slice A y.shelf.length cc) fv nv (some node)) (trTy (some node)) (0, 0))) (h1 : ShelfAt w1 F1 (.slice A y.shelf.length cc) y.shelf) (h2 : FreshFn w1 F1 y.fresh fv) (h3 : NowAt w1 F1 y.now nv) {bx : Obj}
  (hgrow : (w1.alloc bx).drew.grownBy W3 (Value.slice A y.shelf.length cc).ownBlock) (hown : W3.ownsRow 0 30 1 (.slice (some ⟨g', 0, none⟩) (y.shelf.length + 1) cap') (y.shelf.length + 1) (nums .u32 y.shelf ++ [.int .u32 node]))
  (hat : (Value.slice A y.shelf.length cc).ownBlock = some g' ∨ g' = (w1.alloc bx).drew.heap.size) (hlt : g' < W3.heap.size)
  (h5 : W5 = ((W3.setCell ⟨a, 1, none⟩ (.slice (some ⟨g', 0, none⟩) (y.shelf.length + 1) cap')).setCell ⟨a, 4, none⟩ (.int .i64 1)).setCell ⟨a, 5, none⟩ (.int .u32 node)) :
  Post F1 w1 b1 σ' W5 (fun W F' => TRAt W F' a (some node) { y with shelf := y.shelf ++ [node], st := 1, i := node }) := by
 have hFa := hy.own
 have hla := lt_of_heap ho
 have hs3 := hgrow.size
 have hsd : (w1.alloc bx).drew.heap.size = w1.heap.size + 1 := by simp
 have hrow : ∀ k, (Value.slice A y.shelf.length cc).ownBlock = some k → k < w1.heap.size ∧ F1 k := fun k e => ⟨(h1.row.lt k e).2, h1.own k e⟩
 have hra : ∀ k, (Value.slice A y.shelf.length cc).ownBlock = some k → k ≠ a := ne_of_row ho h1.row (by show 370 ≠ 30; decide)
 have hap := of_ap ho hy.ap
 have k3 : Kp F1 w1 W3 := (((Kp.refl F1 w1).alloc bx).drew).grown hgrow (fun k _ e => (hrow k e).2)
 have hka : Kp (fun k => k = a) W3 W5 := by
  rw [h5]
  exact Kp.st (S := fun k => k = a) (Kp.st (S := fun k => k = a) (Kp.st (S := fun k => k = a) (Kp.refl _ _) (.inl rfl) 1 _) (.inl rfl) 4 _) (.inl rfl) 5 _
 have hob3 : W3.heap[a]? = some (.cells (trCells y (.slice A y.shelf.length cc) fv nv (some node)) (trTy (some node)) (0, 0)) :=
  (hgrow.block a (by omega) (fun e => hra a e.symm rfl)).trans ((hp_alloc _ _ _ hla).trans ho)
 have hob5 : W5.heap[a]? = some (.cells (trCells { y with shelf := y.shelf ++ [node], st := 1, i := node } (.slice (some ⟨g', 0, none⟩) (y.shelf.length + 1) cap') fv nv (some node)) (trTy (some node)) (0, 0)) := by
  rw [h5]
  exact hp_same _ a 5 (.int .u32 node) (hp_same _ a 4 (.int .i64 1) (hp_same _ a 1 (.slice (some ⟨g', 0, none⟩) (y.shelf.length + 1) cap') hob3))
 clear h5
 have hkeep : ∀ k o, k ≠ a → some k ≠ (Value.slice A y.shelf.length cc).ownBlock → w1.heap[k]? = some o → W5.heap[k]? = some o := fun k o hne hnr hh =>
  hka.heap ((hgrow.block k (by have := lt_of_heap hh; omega) hnr).trans ((hp_alloc _ _ _ (lt_of_heap hh)).trans hh)) hne
 have g'a : g' ≠ a := by
  rcases hat with e | e
  ·exact hra g' e
  ·omega
 have hs5 := hka.size
 refine Post.mk0 hm hA1 (k3.comp hka (fun k _ e => by rw [e]; exact hFa)) (fun F' g1 g2 => ⟨g1 _ hFa, ⟨_, _, _, hob5, ⟨?_, ?_, ?_⟩, ?_, ?_⟩, hy.kind, hy.kindN, hy.right, hnode, hy.rf, ap_of hob5 ?_⟩)
 ·have e : nums .u32 (y.shelf ++ [node]) = nums .u32 y.shelf ++ [.int .u32 node] := by simp [nums]
  rw [e, List.length_append]
  exact hka.row hown (fun k hk e => by injection hk with hk; have : k = g' := hk.symm; omega)
 ·intro k hk
  injection hk with hk
  have hk : k = g' := hk.symm
  subst hk
  rcases hat with e | e
  ·exact g1 _ (hrow _ e).2
  ·exact g2 _ (by omega) (by omega)
 ·intro z hz
  rcases List.mem_append.1 hz with h | h
  ·exact h1.range z h
  ·rw [List.mem_singleton.1 h]; exact hnode
 ·have h2' := h2
  unfold FreshFn at h2 ⊢
  rw [if_neg (by rw [hy.kind]; simp)] at h2
  rw [if_neg (by rw [hy.kind]; simp)]
  obtain ⟨bc, bi, q1, q2, rfl, q4, q5, q6⟩ := h2
  exact ⟨bc, bi, g1 _ q1, g1 _ q2, rfl, hkeep _ _ (fun e => by subst e; exact ne_of_type q4 ho (by show 32 ≠ 370; decide) rfl) (fun e => ne_of_row q4 h1.row (by decide) bc e.symm rfl) q4, hkeep _ _ (fun e => by subst e; exact ne_of_type q5 ho (by show 30 ≠ 370; decide) rfl) (fun e => hap _ _ bc bi rfl e.symm) q5, q6⟩
 ·cases hn : y.now with
  | none => rw [hn] at h3; exact h3
  | some t =>
   rw [hn] at h3
   obtain ⟨tb, h4, h6⟩ := h3
   refine ⟨tb, h4, h6.small.kept (fun k o hk ho' => hkeep k o (fun e => ?_) (fun e => ?_) ho') (fun k hk => g1 _ hk.1)⟩
   ·subst e
    exact not_tlBlk ho (by show 370 ≠ 339; decide) (by show 370 ≠ 387; decide) (by show 370 ≠ 324; decide) (by show 370 ≠ 379; decide) (by show 370 ≠ 33; decide) hk
   ·obtain ⟨_, cs, u, hh, hu⟩ := hk
    refine ne_of_row hh h1.row ?_ k e.symm rfl
    rcases hu with hu | hu | hu | hu | hu <;> rw [hu] <;> decide
 ·intro K ff bc bi hfv e
  injection e with e
  have e : g' = bi := e
  subst e
  rcases hat with h | h
  ·exact hap K ff bc _ hfv h
  ·unfold FreshFn at h2
   rw [if_neg (by rw [hy.kind]; simp)] at h2
   obtain ⟨bc', bi', q1, q2, q3, q4, q5, q6⟩ := h2
   rw [hfv] at q3
   have : bi' = g' := by simp at q3; omega
   have := lt_of_heap q5
   omega
theorem Post.drewX {F : Nat → Prop} {w w' : World} {b : MB} {σ' : MemS} {X : World → (Nat → Prop) → Prop} (h : Post F w b σ' w' X) (hX : ∀ F', X w' F' → X w'.drew F') : Post F w b σ' w'.drew X := by
 obtain ⟨nv', a, c, d, e⟩ := h
 exact ⟨nv', ⟨a.own, a.words, a.notes, a.range, a.few⟩, c, d.drew, hX _ e⟩
theorem arena_Give_Step (w : World) (b : MB) (σ : MemS) (hb : MemAt w b σ) (hfn : σ.notes.length < 1000000000) (F : Nat → Prop) (hA : Apart w b F) (a : Nat) (node : Int) (hnode : 0 ≤ node ∧ node < 4294967296) (x : TR) (hx : TRAt w F a (some node) x) (hl : x.shelf.length ≤ 1000000) :
  Calls Tryz.prog 238 #[.pointer (some ⟨a, 0, none⟩), .pointer (some ⟨b.m, 0, none⟩)] w (TriesPost w b F a (some node) (x.giveStep node σ).1 (x.giveStep node σ).2) := by
 have hgo := tries_goOn w b σ hb hfn F hA a (some node) x hx
 have hsl : (x.goOn σ).1.shelf = x.shelf := by unfold TR.goOn; split; rfl; dsimp only; split <;> rfl
 unfold TR.giveStep
 generalize x.goOn σ = r at *
 obtain ⟨y, σ'⟩ := r
 simp only at hgo hsl ⊢
 by_cases h6 : y.st = 6
 ·rw [if_pos h6]
  have t6 : (y.st == 6) = true := by rw [h6]; rfl
  go_enter Tryz.func238, Tryz.ntmps238
  go_wp2_with fail
  refine hgo.mono ?_
  rintro e w1 ⟨rfl, nv', hm, hn, hk, hy⟩
  obtain ⟨sv, fv, nv, ho, h1, h2, h3⟩ := hy.obj
  obtain ⟨q, fq, lq⟩ := obj_cells ho
  obtain ⟨A, cc, rfl⟩ := row_slice h1.row
  have c1 : w1.cell? ⟨a, 1, none⟩ = some (.slice A y.shelf.length cc) := q 1
  have c6 : w1.cell? ⟨a, 6, none⟩ = some (.int .u32 node) := q 6
  have f1 : w1.frozen? ⟨a, 1, none⟩ = false := fq 1
  have HO := Lib.hid ho
  clear q fq ho hgo h6
  have hab : ∀ k, (Value.slice A y.shelf.length cc).ownBlock = some k → k ≠ a := ne_of_row HO.out h1.row (by show 370 ≠ 30; decide)
  have n1 : some a ≠ (Value.slice A y.shelf.length cc).ownBlock := fun e => hab a e.symm rfl
  have hr := h1.row
  have hlen : y.shelf.length ≤ 1000000 := by rw [hsl]; exact hl
  clear hsl
  obtain ⟨i0, hi, hz0, hz1, hz2⟩ := info_parts info_u32
  have e1 : ∀ (o : Obj), ((w1.alloc o).cell? ⟨a, 1, none⟩) = some (.slice A y.shelf.length cc) := fun o => kc o c1
  have e6 : ∀ (o : Obj), ((w1.alloc o).cell? ⟨a, 6, none⟩) = some (.int .u32 node) := fun o => kc o c6
  have ef : ∀ (o : Obj), ((w1.alloc o).frozen? ⟨a, 1, none⟩) = false := fun o => kf o lq f1
  have hm3 : a < (w1.alloc (.cells #[.int .u32 node] 30)).drew.heap.size := by simp; omega
  have HR := Lib.hid hr
  have H1 := Lib.hid h1
  have H2 := Lib.hid h2
  have H3 := Lib.hid h3
  have HY := Lib.hid hy
  clear hr h1 h2 h3 hy hab
  go_wp2_with fail
  go_region_law (refine step_append_lies _ (by rfl) _ _ _ (by rfl) 0 30 i0 _ 1 4 Tryz.underlying81 hi hz0 hz1 hz2 rfl (by decide) (.slice A y.shelf.length cc) y.shelf.length _ (by rfl) (row_alloc HR.out _) ⟨w1.heap.size, 0, none⟩ 1 1 [.int .u32 node] (by rfl) (by rfl) (World.news_of_block (heap_alloc_new _ _)) (by simp [Value.oneCell']) (by omega) (by unfold maxLen; omega) (by omega) (by simp) _ rfl ?_; intro g' cap' W3 hown3 hgrow hat hlt; have q1 := hgrow.cell (kc _ c1) n1; have q2 := gf hgrow n1 hm3 (kf _ lq f1))
  all_goals have qa : W3.heap[a]? = some (.cells (trCells y (.slice A y.shelf.length cc) fv nv (some node)) (trTy (some node)) (0, 0)) := (hgrow.block a (by simp; omega) n1).trans ((hp_alloc _ _ _ lq).trans HO.out)
  all_goals refine any_world (p := fun W => Exit.then _ _ _ _ W) ?_
  all_goals intro W hW
  all_goals have hOW := hp_same W3 a 1 (.slice (some ⟨g', 0, none⟩) (y.shelf.length + 1) cap') qa
  all_goals rw [← hW] at hOW
  all_goals obtain ⟨qq, fqq, lqq⟩ := obj_cells hOW
  all_goals have d6 : W.cell? ⟨a, 6, none⟩ = some (.int .u32 node) := qq 6
  all_goals have HW := Lib.hid hW
  all_goals have HOW := Lib.hid hOW
  all_goals clear hW hOW qq fqq qa q1 q2
  all_goals go_wp2_with fail
  all_goals go_region_held3 (fun w' => w'.cell? ⟨a, 6, none⟩ = some (.int .u32 node)) (first | exact d6 | exact e6')
   ((go_at_call 247; refine (arena_ends W.drew a 1 node (.int .i64 y.left) (.slice (some ⟨g', 0, none⟩) (y.shelf.length + 1) cap') fv nv (.int .i64 y.st) (.int .u32 y.i) 370 [.int .u32 node] HOW.out).mono ?_; rintro e w5 ⟨rfl, hw5⟩; have e6' : w5.cell? ⟨a, 6, none⟩ = some (.int .u32 node) := hw5 ▸ (hs_other _ _ _ _ (by simp)).trans ((hs_other _ _ _ _ (by simp)).trans d6); have HW5 := Lib.hid hw5; clear hw5))
  all_goals go_wp2
  all_goals go_ret2
  all_goals refine ⟨rfl, ?_⟩
  all_goals have hfin := give_done hnode hm (hA.next hb hm hn hk.size) HY.out HO.out H1.out H2.out H3.out hgrow hown3 hat hlt rfl
  all_goals have hpost := (Post.trans hb hm hn hk hfin (fun W F F' h hx => hx.kept (fun _ _ _ ho => ho) h)).drewX (fun F' h => h.kept (fun _ _ _ ho => ho) (fun _ h => h))
  all_goals rw [HW5.out, HW.out]
  all_goals exact hpost
 ·rw [if_neg h6]
  have t6 : (y.st == 6) = false := beq_eq_false_iff_ne.2 h6
  go_enter Tryz.func238, Tryz.ntmps238
  go_wp2_with fail
  refine hgo.mono ?_
  rintro e w1 ⟨rfl, hP⟩
  go_wp2
  go_ret2
  exact ⟨rfl, hP⟩
end Go.Proofs.YtgdoeoackhfikaaGreatDoor

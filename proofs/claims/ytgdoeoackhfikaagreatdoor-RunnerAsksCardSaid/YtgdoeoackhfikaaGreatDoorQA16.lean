/-
  Parts of the proof of runnerSkips_holds: ElimD, ElimE, ElimF.
-/
import Derived.Test.YtgdoeoackhfikaaGreatDoorQA15
namespace Go.Proofs.YtgdoeoackhfikaaGreatDoor
open Go.RowKit Go.Proofs.YtgdoeoackhfikaaGreatDoorW.PrintWords
set_option maxRecDepth 100000
set_option maxHeartbeats 4000000
set_option linter.unusedSimpArgs false
set_option linter.unusedVariables false
attribute [local go_sem] hs_other hs_alloc hs_falloc
attribute [local go_sem ↓] Go.wp_at_zero Go.wp_at_succ
theorem elim_step_ended (w : World) (b : MB) (σ : MemS) (hb : MemAt w b σ) (hfn : σ.notes.length < 1000000000) (s : Nat) (dv : Value) (r : SrcS) (hs : SrcAt w s dv r) (F : Nat → Prop) (hA : Apart w b F) (ha : SApart b F s dv) (a : Nat) (x : ElV) (hx : ElAt w F a x) (he : x.ended = 2) :
  Calls Tryz.prog 240 #[.pointer (some ⟨a, 0, none⟩), .pointer (some ⟨b.m, 0, none⟩), .pointer (some ⟨s, 0, none⟩)] w (ElPost F w b s dv a (x.step σ r)) := by
 have e : x.step σ r = (x, σ, r, 2, 0) := by unfold ElV.step; rw [if_pos he]
 rw [e]
 have HP := Lib.hid (show OPost F w b s dv σ r w (fun W F' => ElAt W F' a x) from (Post.mk0 hb hA (Kp.refl _ _) (fun F' h1 h2 => hx.kept (fun _ _ _ h => h) h1)).src hs ha)
 obtain ⟨pv, fv, ho, _⟩ := hx.obj
 obtain ⟨q, fq, lq⟩ := obj_cells ho
 have c0 : w.cell? ⟨a, 0, none⟩ = some pv := q 0
 have c9 : w.cell? ⟨a, 9, none⟩ = some (.int .i64 x.ended) := q 9
 rw [he] at c9
 clear q fq ho e
 go_enter Tryz.func240, Tryz.ntmps240
 go_wp2
 go_ret2
 exact ⟨rfl, HP.out⟩
theorem elim_step_on (w : World) (b : MB) (σ : MemS) (hb : MemAt w b σ) (hfn : σ.notes.length < 1000000000) (s : Nat) (dv : Value) (r : SrcS) (hs : SrcAt w s dv r) (F : Nat → Prop) (hA : Apart w b F) (ha : SApart b F s dv) (a : Nat) (x : ElV) (hx : ElAt w F a x) (he : x.ended ≠ 2) (e0 : EV) (hv : x.v = some e0) :
  Calls Tryz.prog 240 #[.pointer (some ⟨a, 0, none⟩), .pointer (some ⟨b.m, 0, none⟩), .pointer (some ⟨s, 0, none⟩)] w (ElPost F w b s dv a (x.step σ r)) := by
 have e : x.step σ r = ((x.on e0 σ r.now).1, (x.on e0 σ r.now).2, r, (e0.step σ r.now).1.st, (e0.step σ r.now).1.told) := by unfold ElV.step; rw [if_neg he, hv]
 rw [e]
 unfold ElV.on
 clear e
 obtain ⟨pv, fv, ho, hin⟩ := hx.obj
 unfold InnerAt at hin
 rw [hv] at hin
 obtain ⟨t, rfl, het⟩ := hin
 have hrs := hx.rs
 have hF := hx.own
 have HX := Lib.hid hx
 have hWd : Kp (fun _ => False) w w.drew := (Kp.refl _ _).drew
 have hst := exch_step w.drew b σ (hb.same hWd) hfn (fun k => F k ∧ k ≠ a) ⟨fun k h => hA.ne k h.1, fun k h => hA.lt k h.1⟩ t e0 (het.kept (fun _ _ _ h => h) (fun _ h => h)) r.now
 have HKO := Lib.hid (fun (W1 : World) (h : Post (fun k => F k ∧ k ≠ a) w.drew b (e0.step σ r.now).2 W1 (fun W F' => EVAt W F' t (e0.step σ r.now).1)) => (show W1.heap[a]? = some (.cells (x.cs (.pointer (some ⟨t, 0, none⟩)) fv) 376 (0, 0)) from by
  obtain ⟨_, _, _, hk, _⟩ := h
  exact hk.heap (hWd.heap ho (fun e => e)) (fun e => e.elim (fun e => e.2 rfl) (hA.ne a hF))))
 generalize e0.step σ r.now = z at *
 obtain ⟨e', σ'⟩ := z
 simp only at hst HKO ⊢
 obtain ⟨st, hst0⟩ : ∃ st, st = e'.st := ⟨_, rfl⟩
 obtain ⟨tl, htl0⟩ : ∃ tl, tl = e'.told := ⟨_, rfl⟩
 unfold VisitPost at hst
 rw [← hst0, ← htl0] at hst ⊢
 clear hst0 htl0
 obtain ⟨y, hy⟩ : ∃ y, y = (if x.ended = 0 ∧ st ≠ 0 then ({ x with v := some e', ended := st, s := x.s.after x.c.slots st } : ElV) else { x with v := some e' }) := ⟨_, rfl⟩
 rw [← hy]
 have HY := Lib.hid hy
 clear hy
 have HKA := Lib.hid (fun (W1 : World) h => (show W1.cell? ⟨a, 0, none⟩ = some (.pointer (some ⟨t, 0, none⟩)) from (obj_cells (HKO.out W1 h)).1 0))
 have HST := Lib.hid hst
 have HNW := Lib.hid (source_Now s r.now dv w.drew (hs.kept hWd (fun _ _ e => e)).own)
 have hrc := hx.right
 have HEL := Lib.hid (fun (w1 w' : World) (y' : ElV) (hpost : Post (fun k => F k ∧ k ≠ a) w.drew b σ' w1 (fun W F' => EVAt W F' t e')) (hka : Kp (fun k => k = a) w1 w') (ho' : w'.heap[a]? = some (.cells (y'.cs (.pointer (some ⟨t, 0, none⟩)) fv) 376 (0, 0))) (hv' : y'.v = some e') (hc' : y'.c = x.c) (hi' : y'.i = x.i) (hb' : y'.base = x.base) (hw' : y'.wait = x.wait) (hs' : y'.s.right y'.c.slots) => (show OPost F w b s dv σ' r w' (fun W F' => ElAt W F' a y') from OPost.el hb hA hs ha hF (hWd.mono (fun _ e => e.elim)) (hs.kept hWd (fun _ _ e => e)) (fun k h => .inl h) (fun k h => .inl h) hpost hka ho' hv' (by rw [hc']; exact hx.right) (by rw [hi']; exact hx.ri) (by rw [hb']; exact hx.rb) (by rw [hw']; exact hx.rw) hs'))
 obtain ⟨W, hW⟩ : ∃ W, W = w := ⟨_, rfl⟩
 have HO := Lib.hid ho
 obtain ⟨q, fq, lq⟩ := obj_cells ho
 have c0 : w.cell? ⟨a, 0, none⟩ = some (.pointer (some ⟨t, 0, none⟩)) := q 0
 have c9 : w.cell? ⟨a, 9, none⟩ = some (.int .i64 x.ended) := q 9
 have d0 : W.cell? ⟨a, 0, none⟩ = some (.pointer (some ⟨t, 0, none⟩)) := by rw [hW]; exact c0
 have t9 : (x.ended == 2) = false := beq_eq_false_iff_ne.2 he
 have d0d := d0
 subst hW
 clear q fq ho hst het c0
 go_enter Tryz.func240, Tryz.ntmps240
 go_wp2_with fail
 go_region_held3 (fun V => V.cell? ⟨a, 0, none⟩ = some (.pointer (some ⟨t, 0, none⟩))) (first | exact d0 | exact d0d)
  ((first
   | (go_at_call 17; refine HNW.out.mono ?_; rintro e wn ⟨rfl, hwn⟩; obtain rfl : W.drew = wn := hwn.symm)
   | (go_at_call 250; refine HST.out.mono ?_; rintro e w1 ⟨rfl, hpost⟩; have d0d := HKA.out w1 hpost)))
 have hO1 := HKO.out w1 hpost
 have HPO := Lib.hid hpost
 obtain ⟨q1, fq1, lq1⟩ := obj_cells hO1
 have g1_2 : w1.cell? ⟨a, 2, none⟩ = some (.int .i64 x.c.slots) := q1 2
 have g1_5 : w1.cell? ⟨a, 5, none⟩ = some (.int .i64 x.s.range) := q1 5
 have g1_6 : w1.cell? ⟨a, 6, none⟩ = some (.int .i64 x.s.exp) := q1 6
 have g1_9 : w1.cell? ⟨a, 9, none⟩ = some (.int .i64 x.ended) := q1 9
 have f1_9 : w1.frozen? ⟨a, 9, none⟩ = false := fq1 9
 have HO1 := Lib.hid hO1
 clear q1 fq1 hpost hO1 d0 d0d
 by_cases hend : x.ended = 0 ∧ st ≠ 0
 ·have t1 : (st != 0) = true := by rw [bne_iff_ne]; exact hend.2
  rw [hend.1] at g1_9
  go_wp2_with fail
  refine wp_world ?_
  intro V hV
  have hKV : Kp (fun k => k = a) w1 V := by rw [hV]; exact Kp.st (S := fun k => k = a) (Kp.refl _ _) (.inl rfl) 9 _
  have hOV : V.heap[a]? = some (.cells (({ x with ended := st } : ElV).cs (.pointer (some ⟨t, 0, none⟩)) fv) 376 (0, 0)) := by rw [hV]; exact hp_same _ a 9 (.int .i64 st) HO1.out
  clear hV
  obtain ⟨q2, fq2, lq2⟩ := obj_cells hOV
  have v2 : V.cell? ⟨a, 2, none⟩ = some (.int .i64 x.c.slots) := q2 2
  have v5 : V.cell? ⟨a, 5, none⟩ = some (.int .i64 x.s.range) := q2 5
  have v6 : V.cell? ⟨a, 6, none⟩ = some (.int .i64 x.s.exp) := q2 6
  have HAF := Lib.hid (fun W => policy_After x.s (by have := Pol.right_range hrs; omega) x.c.slots st W)
  have hall : ∀ Z, Kp (fun _ => False) V Z → (Z.cell? ⟨a, 2, none⟩ = some (.int .i64 x.c.slots) ∧ Z.cell? ⟨a, 5, none⟩ = some (.int .i64 x.s.range) ∧ Z.cell? ⟨a, 6, none⟩ = some (.int .i64 x.s.exp)) := fun Z hk => ⟨hk.cell v2 (fun e => e), hk.cell v5 (fun e => e), hk.cell v6 (fun e => e)⟩
  have HALL := Lib.hid hall
  have HOV := Lib.hid hOV
  unfold Pol.v at HAF
  clear hall hOV q2 fq2 g1_2 g1_5 g1_6 g1_9 f1_9
  go_region_with (go_at_call 251; refine (HAF.out V.drew).mono ?_; rintro e wa ⟨rfl, hba⟩; have hka : Kp (fun _ => False) V wa := Kp.undrew (Kp.nb hba); have hOa := hka.heap HOV.out (fun e => e); obtain ⟨qa, fqa, lqa⟩ := obj_cells hOa; have s5 : wa.cell? ⟨a, 5, none⟩ = some (.int .i64 x.s.range) := qa 5; have fa5 := fqa 5; have k6 : ∀ u : Value, (wa.setCell ⟨a, 5, none⟩ u).cell? ⟨a, 6, none⟩ = some (.int .i64 x.s.exp) := (fun u => (obj_cells (hp_same _ a 5 u hOa)).1 6); have kf6 := fun (u : Value) => (obj_cells (hp_same _ a 5 u hOa)).2.1 6; have HOA := Lib.hid hOa; clear qa fqa hOa)
  all_goals
   have hkF : Kp (fun k => k = a) w1 ((wa.setCell ⟨a, 5, none⟩ (.int .i64 (x.s.after x.c.slots st).range)).setCell ⟨a, 6, none⟩ (.int .i64 (x.s.after x.c.slots st).exp)) := ((hKV.comp hka (fun _ _ e => e.elim)).st (S := fun k => k = a) (.inl rfl) 5 _).st (S := fun k => k = a) (.inl rfl) 6 _
   have hoF : ((wa.setCell ⟨a, 5, none⟩ (.int .i64 (x.s.after x.c.slots st).range)).setCell ⟨a, 6, none⟩ (.int .i64 (x.s.after x.c.slots st).exp)).heap[a]? = some (.cells (({ x with v := some e', ended := st, s := x.s.after x.c.slots st } : ElV).cs (.pointer (some ⟨t, 0, none⟩)) fv) 376 (0, 0)) := hp_same _ a 6 _ (hp_same _ a 5 _ HOA.out)
   have hfin := HEL.out w1 _ { x with v := some e', ended := st, s := x.s.after x.c.slots st } HPO.out hkF hoF rfl rfl rfl rfl rfl (Pol.right_after _ _ _ ⟨hrc.2.2.1, hrc.2.2.2.1⟩)
   have ey : y = { x with v := some e', ended := st, s := x.s.after x.c.slots st } := by rw [HY.out, if_pos hend]
   rw [← ey] at hfin
   have HFIN := Lib.hid hfin
   clear ey hfin hkF hoF s5 fa5 k6 kf6 v2 v5 v6 hend
   go_wp2
   go_ret2
   exact ⟨rfl, HFIN.out⟩
 ·have hfin := HEL.out w1 w1 { x with v := some e' } HPO.out (Kp.refl _ _) HO1.out rfl rfl rfl rfl rfl hrs
  have ey : y = { x with v := some e' } := by rw [HY.out, if_neg hend]
  rw [← ey] at hfin
  have HFIN := Lib.hid hfin
  clear ey hfin
  by_cases h0 : x.ended = 0
  ·have hst0 : st = 0 := by
    by_cases h : st = 0
    ·exact h
    ·exact absurd ⟨h0, h⟩ hend
   rw [h0] at g1_9
   subst hst0
   clear hend h0
   go_wp2
   go_ret2
   exact ⟨rfl, HFIN.out⟩
  ·have t0 : (x.ended == 0) = false := beq_eq_false_iff_ne.2 h0
   clear hend h0
   go_wp2
   go_ret2
   exact ⟨rfl, HFIN.out⟩
end Go.Proofs.YtgdoeoackhfikaaGreatDoor

namespace Go.Proofs.YtgdoeoackhfikaaGreatDoor
open Go.RowKit Go.Proofs.YtgdoeoackhfikaaGreatDoorW.PrintWords
set_option maxRecDepth 100000
set_option maxHeartbeats 4000000
set_option linter.unusedSimpArgs false
set_option linter.unusedVariables false
attribute [local go_sem] hs_other hs_alloc hs_falloc
attribute [local go_sem ↓] Go.wp_at_zero Go.wp_at_succ
theorem elim_step_begin (w : World) (b : MB) (σ : MemS) (hb : MemAt w b σ) (hfn : σ.notes.length < 1000000000) (s : Nat) (dv : Value) (r : SrcS) (hs : SrcAt w s dv r) (F : Nat → Prop) (hA : Apart w b F) (ha : SApart b F s dv) (a : Nat) (x0 : ElV) (hx : ElAt w F a x0) (he : x0.ended ≠ 2) (hv : x0.v = none) (h0 : x0.c.slots ≠ 0) :
  Calls Tryz.prog 240 #[.pointer (some ⟨a, 0, none⟩), .pointer (some ⟨b.m, 0, none⟩), .pointer (some ⟨s, 0, none⟩)] w (ElPost F w b s dv a (x0.step σ r)) := by
 have hrs0 := hx.rs
 have e : x0.step σ r = ((ElV.on { x0 with place := (x0.begun r).at_ } (x0.begun r) σ r.now).1, (ElV.on { x0 with place := (x0.begun r).at_ } (x0.begun r) σ r.now).2, r.rest x0.s.range, ((x0.begun r).step σ r.now).1.st, ((x0.begun r).step σ r.now).1.told) := by unfold ElV.step; rw [if_neg he, hv]; exact if_neg (fun e => e.elim h0 (fun e => e hrs0))
 rw [e]
 unfold ElV.on
 clear e
 obtain ⟨pv, fv, ho, hin⟩ := hx.obj
 unfold InnerAt at hin
 rw [hv] at hin
 obtain ⟨rfl, bc, bs, bv, bp, bi, bw, bb, i1, i2, i3, i4, i5, i6, i7, rfl, a1, a2, a3, a4, a5, a6, a7⟩ := hin
 have hrc0 := hx.right
 have hF := hx.own
 have HX := Lib.hid hx
 have la := hA.lt a hF
 have hasd := fun k (h : F k) => (show k ≠ s ∧ dv.ownBlock ≠ some k from ⟨fun e => (ha s (.inl rfl)).1 (e ▸ h), fun e => (ha k (.inr e)).1 h⟩)
 have hbeg := fun W (hk : Kp (fun _ => False) w W) => elim_begin W s dv r (hs.kept hk (fun _ _ e => e)) a x0 (.pointer none) _ (hk.heap ho (fun e => e)) (hasd a hF) (fun k => F k ∧ k ≠ a) (fun k h => ⟨h.2, hasd k h.1⟩) hrc0 hx.ri hx.rb hx.rw hrs0 bc bs bv bp bi bw bb i1 i2 i3 i4 i5 i6 i7 (hk.heap a1 (fun e => e)) (hk.heap a2 (fun e => e)) (hk.heap a3 (fun e => e)) (hk.heap a4 (fun e => e)) (hk.heap a5 (fun e => e)) (hk.heap a6 (fun e => e)) (hk.heap a7 (fun e => e))
 obtain ⟨q, fq, lq⟩ := obj_cells ho
 have c0 : w.cell? ⟨a, 0, none⟩ = some (.pointer none) := q 0
 have c9 : w.cell? ⟨a, 9, none⟩ = some (.int .i64 x0.ended) := q 9
 have c1 : w.cell? ⟨a, 1, none⟩ = some (.int .i64 x0.c.nodes) := q 1
 have c2 : w.cell? ⟨a, 2, none⟩ = some (.int .i64 x0.c.slots) := q 2
 have c3 : w.cell? ⟨a, 3, none⟩ = some (.int .i64 x0.c.holders) := q 3
 have c4 : w.cell? ⟨a, 4, none⟩ = some (.int .u32 x0.c.tag) := q 4
 have c5 : w.cell? ⟨a, 5, none⟩ = some (.int .i64 x0.s.range) := q 5
 have c6 : w.cell? ⟨a, 6, none⟩ = some (.int .i64 x0.s.exp) := q 6
 have t9 : (x0.ended == 2) = false := beq_eq_false_iff_ne.2 he
 have t2 : (x0.c.slots == 0) = false := beq_eq_false_iff_ne.2 h0
 have hck := fun W => layout_Check_ok x0.c W hrc0
 have hpr := fun W => policy_Right x0.s x0.c.slots W
 rw [decide_eq_true hrs0] at hpr
 unfold LCfg.v at hck
 unfold Pol.v at hpr
 have HCK := Lib.hid (hck w.drew)
 have HPR := Lib.hid hpr
 have HO := Lib.hid ho
 have HBEG := Lib.hid hbeg
 have hall : ∀ W, Kp (fun _ => False) w W → (W.cell? ⟨a, 1, none⟩ = some (.int .i64 x0.c.nodes) ∧ W.cell? ⟨a, 2, none⟩ = some (.int .i64 x0.c.slots) ∧ W.cell? ⟨a, 3, none⟩ = some (.int .i64 x0.c.holders) ∧ W.cell? ⟨a, 4, none⟩ = some (.int .u32 x0.c.tag) ∧ W.cell? ⟨a, 5, none⟩ = some (.int .i64 x0.s.range) ∧ W.cell? ⟨a, 6, none⟩ = some (.int .i64 x0.s.exp)) := fun W hk => ⟨hk.cell c1 (fun e => e), hk.cell c2 (fun e => e), hk.cell c3 (fun e => e), hk.cell c4 (fun e => e), hk.cell c5 (fun e => e), hk.cell c6 (fun e => e)⟩
 have HALL := Lib.hid hall
 obtain ⟨ZZ, hZZ⟩ : ∃ Q : Ending → World → Prop, Q = ElPost F w b s dv a ((if x0.ended = 0 ∧ ((x0.begun r).step σ r.now).1.st ≠ 0 then ({ x0 with place := (x0.begun r).at_, v := some ((x0.begun r).step σ r.now).1, ended := ((x0.begun r).step σ r.now).1.st, s := x0.s.after x0.c.slots ((x0.begun r).step σ r.now).1.st } : ElV) else { x0 with place := (x0.begun r).at_, v := some ((x0.begun r).step σ r.now).1 }), ((x0.begun r).step σ r.now).2, r.rest x0.s.range, ((x0.begun r).step σ r.now).1.st, ((x0.begun r).step σ r.now).1.told) := ⟨_, rfl⟩
 show Calls _ _ _ _ (ElPost F w b s dv a ((if x0.ended = 0 ∧ ((x0.begun r).step σ r.now).1.st ≠ 0 then ({ x0 with place := (x0.begun r).at_, v := some ((x0.begun r).step σ r.now).1, ended := ((x0.begun r).step σ r.now).1.st, s := x0.s.after x0.c.slots ((x0.begun r).step σ r.now).1.st } : ElV) else { x0 with place := (x0.begun r).at_, v := some ((x0.begun r).step σ r.now).1 }), ((x0.begun r).step σ r.now).2, r.rest x0.s.range, ((x0.begun r).step σ r.now).1.st, ((x0.begun r).step σ r.now).1.told))
 rw [← hZZ]
 have HZZ := Lib.hid hZZ
 clear hZZ hall hbeg hck hpr q fq ho a1 a2 a3 a4 a5 a6 a7 c1 c2 c3 c4 c5 c6
 go_enter Tryz.func240, Tryz.ntmps240
 go_wp2_with fail
 go_region_held3 (fun W => W.cell? ⟨a, 1, none⟩ = some (.int .i64 x0.c.nodes) ∧ W.cell? ⟨a, 2, none⟩ = some (.int .i64 x0.c.slots) ∧ W.cell? ⟨a, 3, none⟩ = some (.int .i64 x0.c.holders) ∧ W.cell? ⟨a, 4, none⟩ = some (.int .u32 x0.c.tag) ∧ W.cell? ⟨a, 5, none⟩ = some (.int .i64 x0.s.range) ∧ W.cell? ⟨a, 6, none⟩ = some (.int .i64 x0.s.exp))
  (first | exact HALL.out _ (Kp.refl _ _) | exact HALL.out _ (Kp.refl _ _).drew | exact HALL.out _ hka | exact HALL.out _ hkb)
  ((first
   | (go_at_call 74; refine HCK.out.mono ?_; rintro e wa ⟨rfl, hba⟩; have hka : Kp (fun _ => False) w wa := Kp.undrew (Kp.nb hba))
   | (go_at_call 212; refine (HPR.out wa).mono ?_; rintro e wb ⟨rfl, hbb⟩; have hkb : Kp (fun _ => False) w wb := hka.also (Kp.nb hbb))))
 have hob := hkb.heap HO.out (fun e => e)
 obtain ⟨qb, fqb, lqb⟩ := obj_cells hob
 have g7 : wb.cell? ⟨a, 7, none⟩ = some (.func (.func 257) #[] #[.pointer (some ⟨bc, 0, none⟩), .pointer (some ⟨bs, 0, none⟩), .pointer (some ⟨bv, 0, none⟩), .pointer (some ⟨bp, 0, none⟩), .pointer (some ⟨bi, 0, none⟩), .pointer (some ⟨bw, 0, none⟩), .pointer (some ⟨bb, 0, none⟩)]) := qb 7
 have hbg := HBEG.out wb hkb
 clear qb fqb hob
 go_wp2_with fail
 refine hbg.mono ?_
 rintro e wc ⟨t, n1, dv', rfl, hn1, hsc, hdv, hkc, hoc, het⟩
 obtain ⟨fv, hfv⟩ : ∃ fv : Value, fv = .func (.func 257) #[] #[.pointer (some ⟨bc, 0, none⟩), .pointer (some ⟨bs, 0, none⟩), .pointer (some ⟨bv, 0, none⟩), .pointer (some ⟨bp, 0, none⟩), .pointer (some ⟨bi, 0, none⟩), .pointer (some ⟨bw, 0, none⟩), .pointer (some ⟨bb, 0, none⟩)] := ⟨_, rfl⟩
 rw [← hfv] at hoc
 obtain ⟨qc, fqc, lqc⟩ := obj_cells hoc
 have k0 : wc.cell? ⟨a, 0, none⟩ = some (.pointer none) := qc 0
 have kf0 := fqc 0
 have HOC := Lib.hid hoc
 have HSC := Lib.hid hsc
 have HET := Lib.hid het
 clear qc fqc hoc hsc het hfv hbg g7
 go_wp2_with fail
 refine wp_world ?_
 intro W hW
 have hKW : Kp (fun k => k = a) wc W := by rw [hW]; exact Kp.st (S := fun k => k = a) (Kp.refl _ _) (.inl rfl) 0 _
 have hszW : W.heap.size = wc.heap.size := by rw [hW]; simp [World.setCell]
 obtain ⟨x, hxe⟩ : ∃ x : ElV, x = { x0 with place := (x0.begun r).at_ } := ⟨_, rfl⟩
 have hOW : W.heap[a]? = some (.cells (x.cs (.pointer (some ⟨t, 0, none⟩)) fv) 376 (0, 0)) := by rw [hW, hxe]; exact hp_same _ a 0 _ HOC.out
 clear hW k0 kf0
 have hkw : Kp (fun k => k = a ∨ k = s ∨ dv.ownBlock = some k) w W := ((hkb.mono (S2 := fun k => k = a ∨ k = s ∨ dv.ownBlock = some k) (fun _ e => e.elim)).comp hkc (fun _ _ e => e)).comp hKW (fun _ _ e => .inl e)
 have z0 := hkb.size
 have hrs : x.s.right x.c.slots := by rw [hxe]; exact hrs0
 have hrc : x.c.right := by rw [hxe]; exact hrc0
 have hWd : Kp (fun _ => False) W W.drew := (Kp.refl _ _).drew
 have hda : ∀ k, (k = s ∨ dv'.ownBlock = some k) → ¬ k = a := fun k hk e => by
  rcases hk with h | h
  ·exact (hasd a hF).1 (e ▸ h)
  ·rcases (hdv k h).1 with h' | h'
   ·exact (hasd a hF).2 (e ▸ h')
   ·omega
 have hsW : SrcAt W s dv' (r.rest x0.s.range) := HSC.out.kept hKW hda
 have hbW : MemAt W.drew b σ := (hb.kept hkw (fun k hk e => by
  rcases e with e | e | e
  ·exact hA.ne a hF (e ▸ hk)
  ·exact (ha s (.inl rfl)).2 (e ▸ hk)
  ·exact (ha k (.inr e)).2 hk)).same hWd
 have hPl : ∀ k, (n1 ≤ k ∧ k < wc.heap.size) → ¬ b.has k := fun k hk e => by have := hb.lt k e; omega
 have hst := exch_step W.drew b σ hbW hfn (fun k => n1 ≤ k ∧ k < wc.heap.size) ⟨hPl, fun k hk => (show k < W.heap.size from by have := hk.2; omega)⟩ t (x0.begun r) (HET.out.kept (fun k o hk ho => hWd.heap (hKW.heap ho (fun e => by have := hk.1; omega)) (fun e => e)) (fun _ h => h)) r.now
 have HKO := Lib.hid (fun (W1 : World) (h : Post (fun k => n1 ≤ k ∧ k < wc.heap.size) W.drew b ((x0.begun r).step σ r.now).2 W1 (fun W F' => EVAt W F' t ((x0.begun r).step σ r.now).1)) => (show W1.heap[a]? = some (.cells (x.cs (.pointer (some ⟨t, 0, none⟩)) fv) 376 (0, 0)) from by
  obtain ⟨_, _, _, hk, _⟩ := h
  exact hk.heap (hWd.heap hOW (fun e => e)) (fun e => e.elim (fun e => by have := e.1; omega) (hA.ne a hF))))
 have hY : (if x0.ended = 0 ∧ ((x0.begun r).step σ r.now).1.st ≠ 0 then ({ x0 with place := (x0.begun r).at_, v := some ((x0.begun r).step σ r.now).1, ended := ((x0.begun r).step σ r.now).1.st, s := x0.s.after x0.c.slots ((x0.begun r).step σ r.now).1.st } : ElV) else { x0 with place := (x0.begun r).at_, v := some ((x0.begun r).step σ r.now).1 }) = (if x.ended = 0 ∧ ((x0.begun r).step σ r.now).1.st ≠ 0 then ({ x with v := some ((x0.begun r).step σ r.now).1, ended := ((x0.begun r).step σ r.now).1.st, s := x.s.after x.c.slots ((x0.begun r).step σ r.now).1.st } : ElV) else { x with v := some ((x0.begun r).step σ r.now).1 }) := by rw [hxe]
 have hZZ := HZZ.out
 rw [hY] at hZZ
 have x1 : x.i = x0.i := by rw [hxe]
 have x2 : x.base = x0.base := by rw [hxe]
 have x3 : x.wait = x0.wait := by rw [hxe]
 have HX1 := Lib.hid x1
 have HX2 := Lib.hid x2
 have HX3 := Lib.hid x3
 clear hY HZZ hxe x1 x2 x3
 generalize (x0.begun r).step σ r.now = z at *
 obtain ⟨e', σ'⟩ := z
 simp only at hst HKO hZZ
 obtain ⟨st, hst0⟩ : ∃ st, st = e'.st := ⟨_, rfl⟩
 obtain ⟨tl, htl0⟩ : ∃ tl, tl = e'.told := ⟨_, rfl⟩
 unfold VisitPost at hst
 rw [← hst0, ← htl0] at hst hZZ
 clear hst0 htl0
 obtain ⟨y, hy⟩ : ∃ y, y = (if x.ended = 0 ∧ st ≠ 0 then ({ x with v := some e', ended := st, s := x.s.after x.c.slots st } : ElV) else { x with v := some e' }) := ⟨_, rfl⟩
 rw [← hy] at hZZ
 have HY := Lib.hid hy
 clear hy
 have HKA := Lib.hid (fun (W1 : World) h => (show W1.cell? ⟨a, 0, none⟩ = some (.pointer (some ⟨t, 0, none⟩)) from (obj_cells (HKO.out W1 h)).1 0))
 have HST := Lib.hid hst
 have hnw := source_Now s _ dv' W.drew (hsW.kept hWd (fun _ _ e => e)).own
 rw [show (r.rest x0.s.range).now = r.now from by unfold SrcS.rest; split <;> rfl] at hnw
 have HNW := Lib.hid hnw
 have HEL := Lib.hid (fun (w1 w' : World) (y' : ElV) (hpost : Post (fun k => n1 ≤ k ∧ k < wc.heap.size) W.drew b σ' w1 (fun W F' => EVAt W F' t e')) (hka : Kp (fun k => k = a) w1 w') (ho' : w'.heap[a]? = some (.cells (y'.cs (.pointer (some ⟨t, 0, none⟩)) fv) 376 (0, 0))) (hv' : y'.v = some e') (hc' : y'.c = x.c) (hi' : y'.i = x.i) (hb' : y'.base = x.base) (hw' : y'.wait = x.wait) (hs' : y'.s.right y'.c.slots) => (show OPost F w b s dv σ' (r.rest x0.s.range) w' (fun W F' => ElAt W F' a y') from OPost.el (P := fun k => n1 ≤ k ∧ k < wc.heap.size) hb hA hs ha hF (hkw.comp hWd (fun _ _ e => e.elim)) (hsW.kept hWd (fun _ _ e => e)) (fun k h => (hdv k h).1.imp id (fun h => by omega)) (fun k h => .inr ⟨by have := h.1; omega, (show k < W.heap.size from by have := h.2; omega), fun e => by have := (hdv k e).2; have := h.1; omega⟩) hpost hka ho' hv' (by rw [hc']; exact hrc) (by rw [hi', HX1.out]; exact HX.out.ri) (by rw [hb', HX2.out]; exact HX.out.rb) (by rw [hw', HX3.out]; exact HX.out.rw) hs'))
 obtain ⟨qw, fqw, lqw⟩ := obj_cells hOW
 have d0 : W.cell? ⟨a, 0, none⟩ = some (.pointer (some ⟨t, 0, none⟩)) := qw 0
 have d0d := d0
 subst hZZ
 clear qw fqw hst hnw hOW
 go_wp2_with fail
 go_region_held3 (fun V => V.cell? ⟨a, 0, none⟩ = some (.pointer (some ⟨t, 0, none⟩))) (first | exact d0 | exact d0d)
  ((first
   | (go_at_call 17; refine HNW.out.mono ?_; rintro e wn ⟨rfl, hwn⟩; obtain rfl : W.drew = wn := hwn.symm)
   | (go_at_call 250; refine HST.out.mono ?_; rintro e w1 ⟨rfl, hpost⟩; have d0d := HKA.out w1 hpost)))
 have hO1 := HKO.out w1 hpost
 have HPO := Lib.hid hpost
 obtain ⟨q1, fq1, lq1⟩ := obj_cells hO1
 have g1_2 : w1.cell? ⟨a, 2, none⟩ = some (.int .i64 x.c.slots) := q1 2
 have g1_5 : w1.cell? ⟨a, 5, none⟩ = some (.int .i64 x.s.range) := q1 5
 have g1_6 : w1.cell? ⟨a, 6, none⟩ = some (.int .i64 x.s.exp) := q1 6
 have g1_9 : w1.cell? ⟨a, 9, none⟩ = some (.int .i64 x.ended) := q1 9
 have f1_9 : w1.frozen? ⟨a, 9, none⟩ = false := fq1 9
 have HO1 := Lib.hid hO1
 clear q1 fq1 hpost hO1 d0 d0d
 by_cases hend : x.ended = 0 ∧ st ≠ 0
 ·have t1 : (st != 0) = true := by rw [bne_iff_ne]; exact hend.2
  rw [hend.1] at g1_9
  go_wp2_with fail
  refine wp_world ?_
  intro V hV
  have hKV : Kp (fun k => k = a) w1 V := by rw [hV]; exact Kp.st (S := fun k => k = a) (Kp.refl _ _) (.inl rfl) 9 _
  have hOV : V.heap[a]? = some (.cells (({ x with ended := st } : ElV).cs (.pointer (some ⟨t, 0, none⟩)) fv) 376 (0, 0)) := by rw [hV]; exact hp_same _ a 9 (.int .i64 st) HO1.out
  clear hV
  obtain ⟨q2, fq2, lq2⟩ := obj_cells hOV
  have v2 : V.cell? ⟨a, 2, none⟩ = some (.int .i64 x.c.slots) := q2 2
  have v5 : V.cell? ⟨a, 5, none⟩ = some (.int .i64 x.s.range) := q2 5
  have v6 : V.cell? ⟨a, 6, none⟩ = some (.int .i64 x.s.exp) := q2 6
  have HAF := Lib.hid (fun W => policy_After x.s (by have := Pol.right_range hrs; omega) x.c.slots st W)
  have hall : ∀ Z, Kp (fun _ => False) V Z → (Z.cell? ⟨a, 2, none⟩ = some (.int .i64 x.c.slots) ∧ Z.cell? ⟨a, 5, none⟩ = some (.int .i64 x.s.range) ∧ Z.cell? ⟨a, 6, none⟩ = some (.int .i64 x.s.exp)) := fun Z hk => ⟨hk.cell v2 (fun e => e), hk.cell v5 (fun e => e), hk.cell v6 (fun e => e)⟩
  have HALL := Lib.hid hall
  have HOV := Lib.hid hOV
  unfold Pol.v at HAF
  clear hall hOV q2 fq2 g1_2 g1_5 g1_6 g1_9 f1_9
  go_region_with (go_at_call 251; refine (HAF.out V.drew).mono ?_; rintro e wa ⟨rfl, hba⟩; have hka : Kp (fun _ => False) V wa := Kp.undrew (Kp.nb hba); have hOa := hka.heap HOV.out (fun e => e); obtain ⟨qa, fqa, lqa⟩ := obj_cells hOa; have s5 : wa.cell? ⟨a, 5, none⟩ = some (.int .i64 x.s.range) := qa 5; have fa5 := fqa 5; have k6 : ∀ u : Value, (wa.setCell ⟨a, 5, none⟩ u).cell? ⟨a, 6, none⟩ = some (.int .i64 x.s.exp) := (fun u => (obj_cells (hp_same _ a 5 u hOa)).1 6); have kf6 := fun (u : Value) => (obj_cells (hp_same _ a 5 u hOa)).2.1 6; have HOA := Lib.hid hOa; clear qa fqa hOa)
  all_goals
   have hkF : Kp (fun k => k = a) w1 ((wa.setCell ⟨a, 5, none⟩ (.int .i64 (x.s.after x.c.slots st).range)).setCell ⟨a, 6, none⟩ (.int .i64 (x.s.after x.c.slots st).exp)) := ((hKV.comp hka (fun _ _ e => e.elim)).st (S := fun k => k = a) (.inl rfl) 5 _).st (S := fun k => k = a) (.inl rfl) 6 _
   have hoF : ((wa.setCell ⟨a, 5, none⟩ (.int .i64 (x.s.after x.c.slots st).range)).setCell ⟨a, 6, none⟩ (.int .i64 (x.s.after x.c.slots st).exp)).heap[a]? = some (.cells (({ x with v := some e', ended := st, s := x.s.after x.c.slots st } : ElV).cs (.pointer (some ⟨t, 0, none⟩)) fv) 376 (0, 0)) := hp_same _ a 6 _ (hp_same _ a 5 _ HOA.out)
   have hfin := HEL.out w1 _ { x with v := some e', ended := st, s := x.s.after x.c.slots st } HPO.out hkF hoF rfl rfl rfl rfl rfl (Pol.right_after _ _ _ ⟨hrc.2.2.1, hrc.2.2.2.1⟩)
   have ey : y = { x with v := some e', ended := st, s := x.s.after x.c.slots st } := by rw [HY.out, if_pos hend]
   rw [← ey] at hfin
   have HFIN := Lib.hid hfin
   clear ey hfin hkF hoF s5 fa5 k6 kf6 v2 v5 v6 hend
   go_wp2
   go_ret2
   exact ⟨rfl, HFIN.out⟩
 ·have hfin := HEL.out w1 w1 { x with v := some e' } HPO.out (Kp.refl _ _) HO1.out rfl rfl rfl rfl rfl hrs
  have ey : y = { x with v := some e' } := by rw [HY.out, if_neg hend]
  rw [← ey] at hfin
  have HFIN := Lib.hid hfin
  clear ey hfin
  by_cases h0 : x.ended = 0
  ·have hst0 : st = 0 := by
    by_cases h : st = 0
    ·exact h
    ·exact absurd ⟨h0, h⟩ hend
   rw [h0] at g1_9
   subst hst0
   clear hend h0
   go_wp2
   go_ret2
   exact ⟨rfl, HFIN.out⟩
  ·have t0 : (x.ended == 0) = false := beq_eq_false_iff_ne.2 h0
   clear hend h0
   go_wp2
   go_ret2
   exact ⟨rfl, HFIN.out⟩
end Go.Proofs.YtgdoeoackhfikaaGreatDoor

namespace Go.Proofs.YtgdoeoackhfikaaGreatDoor
open Go.RowKit Go.Proofs.YtgdoeoackhfikaaGreatDoorW.PrintWords
set_option maxRecDepth 100000
set_option linter.unusedSimpArgs false
set_option linter.unusedVariables false
theorem elim_Step (w : World) (b : MB) (σ : MemS) (hb : MemAt w b σ) (hfn : σ.notes.length < 1000000000) (s : Nat) (dv : Value) (r : SrcS) (hs : SrcAt w s dv r) (F : Nat → Prop) (hA : Apart w b F) (ha : SApart b F s dv) (a : Nat) (x : ElV) (hx : ElAt w F a x) (h0 : x.c.slots ≠ 0) :
  Calls Tryz.prog 240 #[.pointer (some ⟨a, 0, none⟩), .pointer (some ⟨b.m, 0, none⟩), .pointer (some ⟨s, 0, none⟩)] w (ElPost F w b s dv a (x.step σ r)) := by
 by_cases he : x.ended = 2
 ·exact elim_step_ended w b σ hb hfn s dv r hs F hA ha a x hx he
 ·cases hv : x.v with
  | none => exact elim_step_begin w b σ hb hfn s dv r hs F hA ha a x hx he hv h0
  | some e0 => exact elim_step_on w b σ hb hfn s dv r hs F hA ha a x hx he e0 hv
theorem elv_step_c (x : ElV) (σ : MemS) (r : SrcS) : (x.step σ r).1.c = x.c := by
 unfold ElV.step
 split
 ·rfl
 ·split
  ·unfold ElV.on; dsimp only; split <;> rfl
  ·split
   ·rfl
   ·unfold ElV.on; dsimp only; split <;> rfl
end Go.Proofs.YtgdoeoackhfikaaGreatDoor

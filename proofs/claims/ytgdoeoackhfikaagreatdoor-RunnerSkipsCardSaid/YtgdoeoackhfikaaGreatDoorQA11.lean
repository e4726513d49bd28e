/-
  Parts of the proof of runnerSkips_holds: ExchB, ExchC, ExchD, ExchE, ExchF, ExchG.
-/
import Derived.Test.YtgdoeoackhfikaaGreatDoorQA5
import Derived.Test.YtgdoeoackhfikaaGreatDoorQA10
import Derived.Deep.RegionWith
namespace Go.Proofs.YtgdoeoackhfikaaGreatDoor
open Go.RowKit Go.Proofs.YtgdoeoackhfikaaGreatDoorW.PrintWords
set_option maxRecDepth 100000
set_option maxHeartbeats 4000000
set_option linter.unusedSimpArgs false
set_option linter.unusedVariables false
attribute [local go_sem] hs_other hs_alloc hs_falloc run_store_func run_makeFunc
attribute [local go_sem ↓] Go.wp_at_zero Go.wp_at_succ
def EPhase (w : World) (b : MB) (F : Nat → Prop) (t : Nat) (y : EV) (σ' : MemS) (s : Int) (e : Ending) (w' : World) : Prop :=
 e = .returned (.int .i64 s) ∧ Post F w b σ' w' (fun W F' => EVAt W F' t y)
theorem exch_first (w : World) (b : MB) (σ : MemS) (hb : MemAt w b σ) (hfn : σ.notes.length < 1000000000) (F : Nat → Prop) (hA : Apart w b F) (t : Nat) (x : EV) (hx : EVAt w F t x) (hn : x.nx = .first) (now : Int) :
  Calls Tryz.prog 262 #[.pointer (some ⟨t, 0, none⟩), .pointer (some ⟨b.m, 0, none⟩), .int .u64 now] w (EPhase w b F t (x.next σ now).1 (x.next σ now).2.1 (x.next σ now).2.2) := by
 obtain ⟨hF, ⟨fv, ho, hf⟩, hri, hrw, hrn⟩ := hx
 obtain ⟨at_, push, i, dl, looks, ww, nx, st, off⟩ := x
 simp only at hn hri hrw
 subst hn
 have hf' : fv = .func (.func 262) #[.pointer (some ⟨t, 0, none⟩)] #[] := hf
 subst hf'
 have ht : ¬ b.has t := hb.not_has ho (by decide) (by decide) (by decide)
 have ho1 : w.heap[t]? = some (.cells #[.int .i64 at_, .bool push, .int .u32 i, .int .u64 dl, .int .i64 looks, .int .u64 ww, .func (.func 262) #[.pointer (some ⟨t, 0, none⟩)] #[], .int .i64 st, .bool off] 386 (0, 0)) := ho
 have HO := Lib.hid ho1
 have lt := lt_of_heap ho
 clear ho hf ho1
 by_cases hh : σ.has at_
 ·go_enter Tryz.func262, Tryz.ntmps262
  go_wp2_with fail
  refine any_world (p := fun W => Calls Tryz.prog _ _ W _) ?_
  intro W hW
  have hKW : Kp (fun _ => False) w W := by rw [hW]; exact (Kp.refl _ _).alloc _
  have hBW : W.heap[w.heap.size]? = some (.cells #[.pointer (some ⟨t, 0, none⟩)] 371 (0, 0)) := by rw [hW]; exact hp_new _ _ _ rfl
  have hOW := hKW.heap HO.out (fun e => e)
  have htB : ¬ b.has w.heap.size := (hb.same hKW).not_has hBW (by decide) (by decide) (by decide)
  obtain ⟨q, fq, lq⟩ := obj_cells hOW
  have c0 : W.cell? ⟨t, 0, none⟩ = some (.int .i64 at_) := q 0
  have HBW := Lib.hid hBW
  have HOW := Lib.hid hOW
  clear hW hBW hOW q fq
  go_in
  go_wp2_with fail
  refine (mem_load W b σ (hb.same hKW) hfn at_).mono ?_
  rintro e w1 hS
  obtain ⟨rfl, hp⟩ := hS.1 hh
  have hzr := hb.getI hh
  generalize hz : σ.get at_ = z at *
  have HZ := Lib.hid hz
  have hO1 := hp.kp.heap HOW.out ht
  have hB1 := hp.kp.heap HBW.out htB
  obtain ⟨q, fq, lq1⟩ := obj_cells hO1
  obtain ⟨qb, fb, lb1⟩ := obj_cells hB1
  have HO1 := Lib.hid hO1
  have HB1 := Lib.hid hB1
  clear hS hO1 hB1 hz c0
  go_wp2_with fail
  go_in
  go_wp2_with fail
  have hMe := fun W => slot_Meets z hzr push W
  refine (hMe _).mono ?_
  rintro e wM ⟨rfl, rfl⟩
  by_cases hm : meets z push = true
  ·rw [hm]
   go_wp2_with fail
   go_ret
   have e : EV.next ⟨at_, push, i, dl, looks, ww, .first, st, off⟩ σ now = (⟨at_, push, i, dl, looks, z, .claim, st, off⟩, σ.load at_, 0) := by simp [EV.next, hh, HZ.out, hm]
   rw [e]
   exact ⟨rfl, Post.mk3 hb hA hKW hp (Kp.st (S := fun k => F k ∨ (w.heap.size ≤ k ∧ k < W.heap.size)) (Kp.st (S := fun k => F k ∨ (w.heap.size ≤ k ∧ k < W.heap.size)) (Kp.refl _ _) (.inl (.inl hF)) 5 _) (.inl (.inl hF)) 6 _) (fun F' h1 h2 h3 => ⟨h1 _ hF, ⟨_, hp_same _ _ 6 _ (hp_same _ _ 5 _ HO1.out), rfl⟩, hri, hzr, (fun n e => by cases e)⟩)⟩
  ·have hm' : meets z push = false := by simpa using hm
   rw [hm']
   go_wp2_with fail
   refine (slot_State z _ hzr).mono ?_
   rintro e wM ⟨rfl, rfl⟩
   by_cases hs0 : stateOf z = 0
   ·have t0 : (stateOf z == 0) = true := by rw [hs0]; rfl
    go_wp2_with fail
    go_ret
    have e : EV.next ⟨at_, push, i, dl, looks, ww, .first, st, off⟩ σ now = (⟨at_, push, i, dl, looks, z, .offer, st, off⟩, σ.load at_, 0) := by simp [EV.next, hh, HZ.out, hm', hs0]
    rw [e]
    exact ⟨rfl, Post.mk3 hb hA hKW hp (Kp.st (S := fun k => F k ∨ (w.heap.size ≤ k ∧ k < W.heap.size)) (Kp.st (S := fun k => F k ∨ (w.heap.size ≤ k ∧ k < W.heap.size)) (Kp.refl _ _) (.inl (.inl hF)) 5 _) (.inl (.inl hF)) 6 _) (fun F' h1 h2 h3 => ⟨h1 _ hF, ⟨_, hp_same _ _ 6 _ (hp_same _ _ 5 _ HO1.out), rfl⟩, hri, hzr, (fun n e => by cases e)⟩)⟩
   ·have t0 : (stateOf z == 0) = false := beq_eq_false_iff_ne.2 hs0
    go_wp2_with fail
    go_ret
    have e : EV.next ⟨at_, push, i, dl, looks, ww, .first, st, off⟩ σ now = (⟨at_, push, i, dl, looks, z, .first, st, off⟩, σ.load at_, 3) := by simp [EV.next, hh, HZ.out, hm', hs0]
    rw [e]
    exact ⟨rfl, Post.mk3 hb hA hKW hp (Kp.st (S := fun k => F k ∨ (w.heap.size ≤ k ∧ k < W.heap.size)) (Kp.refl _ _) (.inl (.inl hF)) 5 _) (fun F' h1 h2 h3 => ⟨h1 _ hF, ⟨_, hp_same _ _ 5 _ HO1.out, rfl⟩, hri, hzr, (fun n e => by cases e)⟩)⟩
 ·go_enter Tryz.func262, Tryz.ntmps262
  go_wp2_with fail
  refine any_world (p := fun W => Calls Tryz.prog _ _ W _) ?_
  intro W hW
  have hKW : Kp (fun _ => False) w W := by rw [hW]; exact (Kp.refl _ _).alloc _
  have hOW := hKW.heap HO.out (fun e => e)
  obtain ⟨q, fq, lq⟩ := obj_cells hOW
  have c0 : W.cell? ⟨t, 0, none⟩ = some (.int .i64 at_) := q 0
  have HOW := Lib.hid hOW
  clear hW hOW q fq
  go_in
  go_wp2_with fail
  refine (mem_load W b σ (hb.same hKW) hfn at_).mono ?_
  rintro e w1 hS
  obtain ⟨rfl, hpk⟩ := hS.2 hh
  clear hS c0
  go_wp2_with fail
  go_ret
  have e : EV.next ⟨at_, push, i, dl, looks, ww, .first, st, off⟩ σ now = (⟨at_, push, i, dl, looks, ww, .first, st, off⟩, σ, 5) := by simp [EV.next, hh]
  rw [e]
  exact ⟨rfl, Post.mk0 hb hA ((hKW.comp hpk (fun _ _ e => e)).mono (fun _ e => e.elim)) (fun F' h1 h2 => ⟨h1 _ hF, ⟨_, hpk.heap HOW.out (fun e => e), rfl⟩, hri, hrw, (fun n e => by cases e)⟩)⟩
end Go.Proofs.YtgdoeoackhfikaaGreatDoor

namespace Go.Proofs.YtgdoeoackhfikaaGreatDoor
open Go.RowKit Go.Proofs.YtgdoeoackhfikaaGreatDoorW.PrintWords
set_option maxRecDepth 100000
set_option maxHeartbeats 4000000
set_option linter.unusedSimpArgs false
set_option linter.unusedVariables false
attribute [local go_sem] hs_other hs_alloc hs_falloc run_store_func run_makeFunc
attribute [local go_sem ↓] Go.wp_at_zero Go.wp_at_succ
theorem claimW_range (z : Int) (hz : 0 ≤ z ∧ z < 18446744073709551616) (p : Bool) (i : Int) : 0 ≤ claimW z p i ∧ claimW z p i < 18446744073709551616 := by
 unfold claimW
 split
 ·exact slotW_range _ _ _ (stampOf_range z hz)
 ·omega
theorem offerW_range (z : Int) (hz : 0 ≤ z ∧ z < 18446744073709551616) (p : Bool) (i : Int) : 0 ≤ offerW z p i ∧ offerW z p i < 18446744073709551616 := by
 unfold offerW
 split
 ·omega
 ·exact slotW_range _ _ _ (stampOf_range z hz)
theorem slot_Claim_any (z : Int) (hz : 0 ≤ z ∧ z < 18446744073709551616) (p : Bool) (i : Int) (hi : 0 ≤ i ∧ i < 4294967296) (w : World) : Calls Tryz.prog 271 #[.int .u64 z, .bool p, .int .u32 i] w fun e w' => (∃ b, e = .returned (.tuple #[.int .u64 (claimW z p i), .bool b])) ∧ w = w' := by
 by_cases h : meets z p = true
 ·exact (slot_Claim z hz p i hi h w).mono fun e w' ⟨h1, h2⟩ => ⟨⟨true, by rw [h1]; unfold claimW; rw [if_pos h]⟩, h2⟩
 ·exact (slot_Claim_no z hz p i (by simpa using h) w).mono fun e w' ⟨h1, h2⟩ => ⟨⟨false, by rw [h1]; unfold claimW; rw [if_neg h]⟩, h2⟩
theorem slot_Offer_any (z : Int) (hz : 0 ≤ z ∧ z < 18446744073709551616) (p : Bool) (i : Int) (hi : 0 ≤ i ∧ i < 4294967296) (w : World) : Calls Tryz.prog 274 #[.int .u64 z, .bool p, .int .u32 i] w fun e w' => (∃ b, e = .returned (.tuple #[.int .u64 (offerW z p i), .bool b])) ∧ w = w' := by
 by_cases h : stateOf z = 0
 ·exact (slot_Offer_yes z hz p i hi h w).mono fun e w' ⟨h1, h2⟩ => ⟨⟨true, by rw [h1]; unfold offerW; rw [if_neg (show ¬ (stateOf z ≠ 0) by simpa using h)]⟩, h2⟩
 ·exact (slot_Offer_no z hz p i h w).mono fun e w' ⟨h1, h2⟩ => ⟨⟨false, by rw [h1]; unfold offerW; rw [if_pos (show stateOf z ≠ 0 from h)]⟩, h2⟩
theorem exch_claim (w : World) (b : MB) (σ : MemS) (hb : MemAt w b σ) (hfn : σ.notes.length < 1000000000) (F : Nat → Prop) (hA : Apart w b F) (t : Nat) (x : EV) (hx : EVAt w F t x) (hn : x.nx = .claim) (now : Int) :
  Calls Tryz.prog 267 #[.pointer (some ⟨t, 0, none⟩), .pointer (some ⟨b.m, 0, none⟩), .int .u64 now] w (EPhase w b F t (x.next σ now).1 (x.next σ now).2.1 (x.next σ now).2.2) := by
 have hx0 := hx
 obtain ⟨hF, ⟨fv, ho, hf⟩, hri, hrw, hrn⟩ := hx
 obtain ⟨at_, push, i, dl, looks, ww, nx, st, off⟩ := x
 simp only at hn hri hrw
 subst hn
 have hf' : fv = .func (.func 267) #[.pointer (some ⟨t, 0, none⟩)] #[] := hf
 subst hf'
 have hsw := fun W h1 => exch_swap W b σ h1 hfn t ⟨at_, push, i, dl, looks, ww, .claim, st, off⟩ (.func (.func 267) #[.pointer (some ⟨t, 0, none⟩)] #[])
 have ho1 : w.heap[t]? = some (.cells #[.int .i64 at_, .bool push, .int .u32 i, .int .u64 dl, .int .i64 looks, .int .u64 ww, .func (.func 267) #[.pointer (some ⟨t, 0, none⟩)] #[], .int .i64 st, .bool off] 386 (0, 0)) := ho
 have ht : ¬ b.has t := hb.not_has ho (by decide) (by decide) (by decide)
 obtain ⟨q, fq, lq⟩ := obj_cells ho1
 have c1 : w.cell? ⟨t, 1, none⟩ = some (.bool push) := q 1
 have c2 : w.cell? ⟨t, 2, none⟩ = some (.int .u32 i) := q 2
 have c5 : w.cell? ⟨t, 5, none⟩ = some (.int .u64 ww) := q 5
 have hcr := claimW_range ww hrw push i
 have hcl := fun w => slot_Claim_any ww hrw push i hri w
 have HO := Lib.hid ho1
 have HOo := Lib.hid ho
 have e : EV.next ⟨at_, push, i, dl, looks, ww, .claim, st, off⟩ σ now = (if (EV.swp ⟨at_, push, i, dl, looks, ww, .claim, st, off⟩ σ (claimW ww push i) 1 3).2 = 1 then ⟨at_, push, sIdxOf (claimW ww push i), dl, looks, ww, .claim, st, off⟩ else ⟨at_, push, i, dl, looks, ww, .claim, st, off⟩, EV.swp ⟨at_, push, i, dl, looks, ww, .claim, st, off⟩ σ (claimW ww push i) 1 3) := rfl
 rw [e]
 clear ho ho1 hf q fq e
 generalize claimW ww push i = cw at *
 have hsw1 := fun W h1 h2 => hsw W h1 h2 cw 1 3 hcr
 clear hsw
 generalize EV.swp ⟨at_, push, i, dl, looks, ww, .claim, st, off⟩ σ cw 1 3 = r at *
 obtain ⟨σ', s⟩ := r
 simp only at hsw1 ⊢
 by_cases hs : s = 1
 ·rw [if_pos hs]
  have t1 : (s == 1) = true := by rw [hs]; rfl
  clear hs
  go_enter Tryz.func267, Tryz.ntmps267
  go_wp2
  go_region_held3 (fun w' => w'.cell? ⟨t, 1, none⟩ = some (.bool push) ∧ w'.cell? ⟨t, 2, none⟩ = some (.int .u32 i) ∧ w'.cell? ⟨t, 5, none⟩ = some (.int .u64 ww)) (exact ⟨c1, c2, c5⟩)
   ((go_at_call 271; refine (hcl _).mono ?_; rintro e wC ⟨⟨bb, rfl⟩, rfl⟩))
  go_wp2_with fail
  refine (hsw1 _ (hb.same (Kp.refl _ _).drew) HOo.out).mono ?_
  rintro e w1 ⟨rfl, hp'⟩
  have hp := hp'.undrew
  have hO1 := hp.kp.heap HO.out ht
  obtain ⟨q, fq, lq1⟩ := obj_cells hO1
  have HO1 := Lib.hid hO1
  clear hO1 hp' hsw1 c1 c2 c5
  go_wp2_with fail
  refine (slot_Index cw _ hcr).mono ?_
  rintro e wI ⟨rfl, rfl⟩
  go_wp2_with fail
  go_ret
  exact ⟨rfl, Post.mk3 hb hA (Kp.refl _ _) hp (Kp.st (S := fun k => F k ∨ (w.heap.size ≤ k ∧ k < w.heap.size)) (Kp.refl _ _) (.inl (.inl hF)) 2 _) (fun F' h1 h2 h3 => ⟨h1 _ hF, ⟨_, hp_same _ _ 2 _ HO1.out, rfl⟩, sIdxOf_range _, hrw, (fun n e => by cases e)⟩)⟩
 ·rw [if_neg hs]
  have t1 : (s == 1) = false := beq_eq_false_iff_ne.2 hs
  clear hs
  go_enter Tryz.func267, Tryz.ntmps267
  go_wp2
  go_region_held3 (fun w' => w'.cell? ⟨t, 1, none⟩ = some (.bool push) ∧ w'.cell? ⟨t, 2, none⟩ = some (.int .u32 i) ∧ w'.cell? ⟨t, 5, none⟩ = some (.int .u64 ww)) (exact ⟨c1, c2, c5⟩)
   ((go_at_call 271; refine (hcl _).mono ?_; rintro e wC ⟨⟨bb, rfl⟩, rfl⟩))
  go_wp2_with fail
  refine (hsw1 _ (hb.same (Kp.refl _ _).drew) HOo.out).mono ?_
  rintro e w1 ⟨rfl, hp'⟩
  have hp := hp'.undrew
  clear hp' hsw1 c1 c2 c5
  go_wp2_with fail
  go_ret
  exact ⟨rfl, Post.mk3 hb hA (Kp.refl _ _) hp (Kp.refl _ _) (fun F' h1 h2 h3 => hx0.kept (fun k o hk ho => hp.kp.heap ho (hA.ne k hk)) h1)⟩
theorem exch_offer (w : World) (b : MB) (σ : MemS) (hb : MemAt w b σ) (hfn : σ.notes.length < 1000000000) (F : Nat → Prop) (hA : Apart w b F) (t : Nat) (x : EV) (hx : EVAt w F t x) (hn : x.nx = .offer) (now : Int) :
  Calls Tryz.prog 269 #[.pointer (some ⟨t, 0, none⟩), .pointer (some ⟨b.m, 0, none⟩), .int .u64 now] w (EPhase w b F t (x.next σ now).1 (x.next σ now).2.1 (x.next σ now).2.2) := by
 have hx0 := hx
 obtain ⟨hF, ⟨fv, ho, hf⟩, hri, hrw, hrn⟩ := hx
 obtain ⟨at_, push, i, dl, looks, ww, nx, st, off⟩ := x
 simp only at hn hri hrw
 subst hn
 have hf' : fv = .func (.func 269) #[.pointer (some ⟨t, 0, none⟩)] #[] := hf
 subst hf'
 have hsw := fun W h1 => exch_swap W b σ h1 hfn t ⟨at_, push, i, dl, looks, ww, .offer, st, off⟩ (.func (.func 269) #[.pointer (some ⟨t, 0, none⟩)] #[])
 have ho1 : w.heap[t]? = some (.cells #[.int .i64 at_, .bool push, .int .u32 i, .int .u64 dl, .int .i64 looks, .int .u64 ww, .func (.func 269) #[.pointer (some ⟨t, 0, none⟩)] #[], .int .i64 st, .bool off] 386 (0, 0)) := ho
 have ht : ¬ b.has t := hb.not_has ho (by decide) (by decide) (by decide)
 obtain ⟨q, fq, lq⟩ := obj_cells ho1
 have c1 : w.cell? ⟨t, 1, none⟩ = some (.bool push) := q 1
 have c2 : w.cell? ⟨t, 2, none⟩ = some (.int .u32 i) := q 2
 have c5 : w.cell? ⟨t, 5, none⟩ = some (.int .u64 ww) := q 5
 have hcr := offerW_range ww hrw push i
 have hcl := fun w => slot_Offer_any ww hrw push i hri w
 have HO := Lib.hid ho1
 have HOo := Lib.hid ho
 have e : EV.next ⟨at_, push, i, dl, looks, ww, .offer, st, off⟩ σ now = (if (EV.swp ⟨at_, push, i, dl, looks, ww, .offer, st, off⟩ σ (offerW ww push i) 0 3).2 = 0 then ⟨at_, push, i, dl, looks, offerW ww push i, .look, st, true⟩ else ⟨at_, push, i, dl, looks, ww, .offer, st, off⟩, EV.swp ⟨at_, push, i, dl, looks, ww, .offer, st, off⟩ σ (offerW ww push i) 0 3) := rfl
 rw [e]
 clear ho ho1 hf q fq e
 generalize offerW ww push i = cw at *
 have hsw1 := fun W h1 h2 => hsw W h1 h2 cw 0 3 hcr
 clear hsw
 generalize EV.swp ⟨at_, push, i, dl, looks, ww, .offer, st, off⟩ σ cw 0 3 = r at *
 obtain ⟨σ', s⟩ := r
 simp only at hsw1 ⊢
 by_cases hs : s = 0
 ·rw [if_pos hs]
  have t1 : (s == 0) = true := by rw [hs]; rfl
  clear hs
  go_enter Tryz.func269, Tryz.ntmps269
  go_wp2
  go_region_held3 (fun w' => w'.cell? ⟨t, 1, none⟩ = some (.bool push) ∧ w'.cell? ⟨t, 2, none⟩ = some (.int .u32 i) ∧ w'.cell? ⟨t, 5, none⟩ = some (.int .u64 ww)) (exact ⟨c1, c2, c5⟩)
   ((go_at_call 274; refine (hcl _).mono ?_; rintro e wC ⟨⟨bb, rfl⟩, rfl⟩))
  go_wp2_with fail
  refine (hsw1 _ (hb.same (Kp.refl _ _).drew) HOo.out).mono ?_
  rintro e w1 ⟨rfl, hp'⟩
  have hp := hp'.undrew
  have hO1 := hp.kp.heap HO.out ht
  obtain ⟨q, fq, lq1⟩ := obj_cells hO1
  have HO1 := Lib.hid hO1
  clear hO1 hp' hsw1 c1 c2 c5
  go_wp2_with fail
  go_ret
  exact ⟨rfl, Post.mk3 hb hA (Kp.refl _ _) hp (Kp.st (S := fun k => F k ∨ (w.heap.size ≤ k ∧ k < w.heap.size)) (Kp.st (S := fun k => F k ∨ (w.heap.size ≤ k ∧ k < w.heap.size)) (Kp.st (S := fun k => F k ∨ (w.heap.size ≤ k ∧ k < w.heap.size)) (Kp.refl _ _) (.inl (.inl hF)) 5 _) (.inl (.inl hF)) 8 _) (.inl (.inl hF)) 6 _) (fun F' h1 h2 h3 => ⟨h1 _ hF, ⟨_, hp_same _ _ 6 _ (hp_same _ _ 8 _ (hp_same _ _ 5 _ HO1.out)), rfl⟩, hri, hcr, (fun n e => by cases e)⟩)⟩
 ·rw [if_neg hs]
  have t1 : (s == 0) = false := beq_eq_false_iff_ne.2 hs
  clear hs
  go_enter Tryz.func269, Tryz.ntmps269
  go_wp2
  go_region_held3 (fun w' => w'.cell? ⟨t, 1, none⟩ = some (.bool push) ∧ w'.cell? ⟨t, 2, none⟩ = some (.int .u32 i) ∧ w'.cell? ⟨t, 5, none⟩ = some (.int .u64 ww)) (exact ⟨c1, c2, c5⟩)
   ((go_at_call 274; refine (hcl _).mono ?_; rintro e wC ⟨⟨bb, rfl⟩, rfl⟩))
  go_wp2_with fail
  refine (hsw1 _ (hb.same (Kp.refl _ _).drew) HOo.out).mono ?_
  rintro e w1 ⟨rfl, hp'⟩
  have hp := hp'.undrew
  clear hp' hsw1 c1 c2 c5
  go_wp2_with fail
  go_ret
  exact ⟨rfl, Post.mk3 hb hA (Kp.refl _ _) hp (Kp.refl _ _) (fun F' h1 h2 h3 => hx0.kept (fun k o hk ho => hp.kp.heap ho (hA.ne k hk)) h1)⟩
end Go.Proofs.YtgdoeoackhfikaaGreatDoor

namespace Go.Proofs.YtgdoeoackhfikaaGreatDoor
open Go.RowKit Go.Proofs.YtgdoeoackhfikaaGreatDoorW.PrintWords
set_option maxRecDepth 100000
set_option maxHeartbeats 4000000
set_option linter.unusedSimpArgs false
set_option linter.unusedVariables false
attribute [local go_sem] hs_other hs_alloc hs_falloc run_store_func run_makeFunc
attribute [local go_sem ↓] Go.wp_at_zero Go.wp_at_succ
theorem clearW_range (z : Int) : 0 ≤ clearW z ∧ clearW z < 18446744073709551616 := by unfold clearW; exact slotW_range _ _ _ (by omega)
theorem exch_withdraw (w : World) (b : MB) (σ : MemS) (hb : MemAt w b σ) (hfn : σ.notes.length < 1000000000) (F : Nat → Prop) (hA : Apart w b F) (t : Nat) (x : EV) (hx : EVAt w F t x) (hn : x.nx = .withdraw) (now : Int) :
  Calls Tryz.prog 280 #[.pointer (some ⟨t, 0, none⟩), .pointer (some ⟨b.m, 0, none⟩), .int .u64 now] w (EPhase w b F t (x.next σ now).1 (x.next σ now).2.1 (x.next σ now).2.2) := by
 obtain ⟨hF, ⟨fv, ho, hf⟩, hri, hrw, hrn⟩ := hx
 obtain ⟨at_, push, i, dl, looks, ww, nx, st, off⟩ := x
 simp only at hn hri hrw
 subst hn
 have hf' : fv = .func (.func 280) #[.pointer (some ⟨t, 0, none⟩)] #[] := hf
 subst hf'
 have hsw := fun W h1 => exch_swap W b σ h1 hfn t ⟨at_, push, i, dl, looks, ww, .withdraw, st, off⟩ (.func (.func 280) #[.pointer (some ⟨t, 0, none⟩)] #[])
 have ho1 : w.heap[t]? = some (.cells #[.int .i64 at_, .bool push, .int .u32 i, .int .u64 dl, .int .i64 looks, .int .u64 ww, .func (.func 280) #[.pointer (some ⟨t, 0, none⟩)] #[], .int .i64 st, .bool off] 386 (0, 0)) := ho
 have ht : ¬ b.has t := hb.not_has ho (by decide) (by decide) (by decide)
 obtain ⟨q, fq, lq⟩ := obj_cells ho1
 have c5 : w.cell? ⟨t, 5, none⟩ = some (.int .u64 ww) := q 5
 have hcr := clearW_range ww
 have hcl := fun w => slot_Clear ww hrw w
 have HO := Lib.hid ho1
 have HOo := Lib.hid ho
 have e : EV.next ⟨at_, push, i, dl, looks, ww, .withdraw, st, off⟩ σ now = (⟨at_, push, i, dl, looks, ww, .look, st, off⟩, EV.swp ⟨at_, push, i, dl, looks, ww, .withdraw, st, off⟩ σ (clearW ww) 4 0) := rfl
 rw [e]
 clear ho ho1 hf q fq e
 generalize clearW ww = cw at *
 have hsw1 := fun W h1 h2 => hsw W h1 h2 cw 4 0 hcr
 clear hsw
 generalize EV.swp ⟨at_, push, i, dl, looks, ww, .withdraw, st, off⟩ σ cw 4 0 = r at *
 obtain ⟨σ', s⟩ := r
 simp only at hsw1 ⊢
 go_enter Tryz.func280, Tryz.ntmps280
 go_wp2_with fail
 refine (hcl _).mono ?_
 rintro e wC ⟨rfl, rfl⟩
 go_wp2_with fail
 refine (hsw1 w hb HOo.out).mono ?_
 rintro e w1 ⟨rfl, hp⟩
 have hO1 := hp.kp.heap HO.out ht
 obtain ⟨q, fq, lq1⟩ := obj_cells hO1
 have HO1 := Lib.hid hO1
 clear hO1 hsw1 c5
 go_wp2_with fail
 go_ret
 exact ⟨rfl, Post.mk3 hb hA (Kp.refl _ _) hp (Kp.st (S := fun k => F k ∨ (w.heap.size ≤ k ∧ k < w.heap.size)) (Kp.refl _ _) (.inl (.inl hF)) 6 _) (fun F' h1 h2 h3 => ⟨h1 _ hF, ⟨_, hp_same _ _ 6 _ HO1.out, rfl⟩, hri, hrw, (fun n e => by cases e)⟩)⟩
theorem exch_met (w : World) (b : MB) (σ : MemS) (hb : MemAt w b σ) (hfn : σ.notes.length < 1000000000) (F : Nat → Prop) (hA : Apart w b F) (t : Nat) (x : EV) (hx : EVAt w F t x) (z : Int) (hn : x.nx = .found z) (now : Int) (bt bn : Nat) (hFn : F bn)
  (hbt : w.heap[bt]? = some (.cells #[.pointer (some ⟨t, 0, none⟩)] 371 (0, 0))) (hbn : w.heap[bn]? = some (.cells #[.int .u64 z] 33 (0, 0))) :
  Calls Tryz.prog 281 #[.pointer (some ⟨b.m, 0, none⟩), .int .u64 now, .pointer (some ⟨bt, 0, none⟩), .pointer (some ⟨bn, 0, none⟩)] w (EPhase w b F t (x.next σ now).1 (x.next σ now).2.1 (x.next σ now).2.2) := by
 have hx0 := hx
 obtain ⟨hF, ⟨fv, ho, hf⟩, hri, hrw, hrn⟩ := hx
 have hzr := hrn z hn
 have htb : ¬ b.has bt := hb.not_has hbt (by decide) (by decide) (by decide)
 have htn : ¬ b.has bn := hA.ne bn hFn
 have ht : ¬ b.has t := hA.ne t hF
 have hcr := clearW_range z
 have hcl := fun w => slot_Clear z hzr w
 obtain ⟨qt, _, lt⟩ := obj_cells hbt
 obtain ⟨qn, _, ln⟩ := obj_cells hbn
 obtain ⟨q, _, lq⟩ := obj_cells ho
 have ct : w.cell? ⟨bt, 0, none⟩ = some (.pointer (some ⟨t, 0, none⟩)) := qt 0
 have cn : w.cell? ⟨bn, 0, none⟩ = some (.int .u64 z) := qn 0
 have c0 : w.cell? ⟨t, 0, none⟩ = some (.int .i64 x.at_) := q 0
 clear qt qn q hbt hbn ho hf hrn
 generalize hcw : clearW z = cw at *
 by_cases hh : σ.has x.at_
 ·have e : x.next σ now = (x, σ.store x.at_ cw, 1) := by unfold EV.next; rw [hn]; simp only []; rw [if_pos hh, hcw]
  rw [e]
  clear e hn hcw
  go_enter Tryz.func281, Tryz.ntmps281
  go_wp2
  go_region_held3 (fun w' => w'.cell? ⟨bt, 0, none⟩ = some (.pointer (some ⟨t, 0, none⟩)) ∧ w'.cell? ⟨bn, 0, none⟩ = some (.int .u64 z) ∧ w'.cell? ⟨t, 0, none⟩ = some (.int .i64 x.at_)) (first | exact ⟨ct, cn, c0⟩ | exact ⟨hpk.cell ct htb, hpk.cell cn htn, hpk.cell c0 ht⟩)
   ((first
    | (go_at_call 282; refine (hcl _).mono ?_; rintro e wC ⟨rfl, rfl⟩)
    | (go_at_call 244; refine (mem_store w.drew b σ (hb.same (Kp.refl _ _).drew) hfn x.at_ cw hcr).mono ?_; rintro e wS hS; obtain ⟨rfl, hp'⟩ := hS.1 hh; have hp := hp'.undrew; have hpk := hp.kp)))
  go_wp2
  go_ret
  exact ⟨rfl, Post.mk3 hb hA (Kp.refl _ _) hp (Kp.refl _ _) (fun F' h1 h2 h3 => hx0.kept (fun k o hk ho => hpk.heap ho (hA.ne k hk)) h1)⟩
 ·have e : x.next σ now = (x, σ, 5) := by unfold EV.next; rw [hn]; simp only []; rw [if_neg hh]
  rw [e]
  clear e hn hcw
  go_enter Tryz.func281, Tryz.ntmps281
  go_wp2
  go_region_held3 (fun w' => w'.cell? ⟨bt, 0, none⟩ = some (.pointer (some ⟨t, 0, none⟩)) ∧ w'.cell? ⟨bn, 0, none⟩ = some (.int .u64 z) ∧ w'.cell? ⟨t, 0, none⟩ = some (.int .i64 x.at_)) (first | exact ⟨ct, cn, c0⟩ | exact ⟨hpk.cell ct (fun e => e), hpk.cell cn (fun e => e), hpk.cell c0 (fun e => e)⟩)
   ((first
    | (go_at_call 282; refine (hcl _).mono ?_; rintro e wC ⟨rfl, rfl⟩)
    | (go_at_call 244; refine (mem_store w.drew b σ (hb.same (Kp.refl _ _).drew) hfn x.at_ cw hcr).mono ?_; rintro e wS hS; obtain ⟨rfl, hpk'⟩ := hS.2 hh; have hpk := Kp.undrew hpk')))
  go_wp2
  go_ret
  exact ⟨rfl, Post.mk0 hb hA (hpk.mono (fun _ e => e.elim)) (fun F' h1 h2 => hx0.kept (fun k o hk ho => hpk.heap ho (fun e => e)) h1)⟩
end Go.Proofs.YtgdoeoackhfikaaGreatDoor

namespace Go.Proofs.YtgdoeoackhfikaaGreatDoor
open Go.RowKit Go.Proofs.YtgdoeoackhfikaaGreatDoorW.PrintWords
set_option maxRecDepth 100000
set_option maxHeartbeats 4000000
set_option linter.unusedSimpArgs false
set_option linter.unusedVariables false
attribute [local go_sem] hs_other hs_alloc hs_falloc run_store_func run_makeFunc
attribute [local go_sem ↓] Go.wp_at_zero Go.wp_at_succ
theorem exch_found_no1 (w : World) (t : Nat) (x : EV) (fv : Value) (ho : w.heap[t]? = some (.cells (x.cs fv) 386 (0, 0))) (hrw : 0 ≤ x.w ∧ x.w < 18446744073709551616) (z : Int) (hz : 0 ≤ z ∧ z < 18446744073709551616) (h : stateOf z ≠ 3) :
  Calls Tryz.prog 279 #[.pointer (some ⟨t, 0, none⟩), .int .u64 z] w fun e w' => e = .returned (.int .i64 5) ∧ Kp (fun _ => False) w w' := by
 obtain ⟨q, fq, lq⟩ := obj_cells ho
 have c5 : w.cell? ⟨t, 5, none⟩ = some (.int .u64 x.w) := q 5
 have hS := fun w => slot_State z w hz
 have hT1 := fun w => slot_Stamp z w hz
 have hT2 := fun w => slot_Stamp x.w w hrw
 have t0 : (stateOf z != 3) = true := by rw [bne_iff_ne]; exact h
 clear h
 have HO := Lib.hid ho
 clear q fq ho
 go_enter Tryz.func279, Tryz.ntmps279
 go_wp2_with fail
 refine wp_world ?_
 intro W hW
 have hKW : Kp (fun _ => False) w W := by rw [hW]; exact Kp.nb (by go_grown)
 have hBt : W.heap[w.heap.size]? = some (.cells #[.pointer (some ⟨t, 0, none⟩)] 371 (0, 0)) := by rw [hW, hp_alloc _ _ _ (by simp)]; exact hp_new _ _ _ rfl
 have hBn : W.heap[w.heap.size + 1]? = some (.cells #[.int .u64 z] 33 (0, 0)) := by rw [hW]; exact hp_new _ _ _ (by simp)
 obtain ⟨qt, _, lt⟩ := obj_cells hBt
 obtain ⟨qn, _, ln⟩ := obj_cells hBn
 have ct : W.cell? ⟨w.heap.size, 0, none⟩ = some (.pointer (some ⟨t, 0, none⟩)) := qt 0
 have cn : W.cell? ⟨w.heap.size + 1, 0, none⟩ = some (.int .u64 z) := qn 0
 have d5 : W.cell? ⟨t, 5, none⟩ = some (.int .u64 x.w) := hKW.cell c5 (fun e => e)
 have HBt := Lib.hid hBt
 have HBn := Lib.hid hBn
 clear hW qt qn c5 hBt hBn
 go_region_with (go_at_call 268; refine (hS _).mono ?_; rintro e wC ⟨rfl, rfl⟩)
 all_goals go_wp2_with fail
 all_goals go_ret
 all_goals exact ⟨rfl, hKW.drew⟩
theorem exch_found_no2 (w : World) (t : Nat) (x : EV) (fv : Value) (ho : w.heap[t]? = some (.cells (x.cs fv) 386 (0, 0))) (hrw : 0 ≤ x.w ∧ x.w < 18446744073709551616) (z : Int) (hz : 0 ≤ z ∧ z < 18446744073709551616) (h : stateOf z = 3) (h2 : stampOf z ≠ stampOf x.w) :
  Calls Tryz.prog 279 #[.pointer (some ⟨t, 0, none⟩), .int .u64 z] w fun e w' => e = .returned (.int .i64 5) ∧ Kp (fun _ => False) w w' := by
 obtain ⟨q, fq, lq⟩ := obj_cells ho
 have c5 : w.cell? ⟨t, 5, none⟩ = some (.int .u64 x.w) := q 5
 have hS := fun w => slot_State z w hz
 have hT1 := fun w => slot_Stamp z w hz
 have hT2 := fun w => slot_Stamp x.w w hrw
 have t0 : (stateOf z != 3) = false := by rw [h]; rfl
 have t1 : (stampOf z != stampOf x.w) = true := by rw [bne_iff_ne]; exact h2
 clear h h2
 have HO := Lib.hid ho
 clear q fq ho
 go_enter Tryz.func279, Tryz.ntmps279
 go_wp2_with fail
 refine wp_world ?_
 intro W hW
 have hKW : Kp (fun _ => False) w W := by rw [hW]; exact Kp.nb (by go_grown)
 have hBt : W.heap[w.heap.size]? = some (.cells #[.pointer (some ⟨t, 0, none⟩)] 371 (0, 0)) := by rw [hW, hp_alloc _ _ _ (by simp)]; exact hp_new _ _ _ rfl
 have hBn : W.heap[w.heap.size + 1]? = some (.cells #[.int .u64 z] 33 (0, 0)) := by rw [hW]; exact hp_new _ _ _ (by simp)
 obtain ⟨qt, _, lt⟩ := obj_cells hBt
 obtain ⟨qn, _, ln⟩ := obj_cells hBn
 have ct : W.cell? ⟨w.heap.size, 0, none⟩ = some (.pointer (some ⟨t, 0, none⟩)) := qt 0
 have cn : W.cell? ⟨w.heap.size + 1, 0, none⟩ = some (.int .u64 z) := qn 0
 have d5 : W.cell? ⟨t, 5, none⟩ = some (.int .u64 x.w) := hKW.cell c5 (fun e => e)
 have HBt := Lib.hid hBt
 have HBn := Lib.hid hBn
 clear hW qt qn c5 hBt hBn
 go_region_held3 (fun w' => w'.cell? ⟨w.heap.size, 0, none⟩ = some (.pointer (some ⟨t, 0, none⟩)) ∧ w'.cell? ⟨w.heap.size + 1, 0, none⟩ = some (.int .u64 z) ∧ w'.cell? ⟨t, 5, none⟩ = some (.int .u64 x.w)) (exact ⟨ct, cn, d5⟩)
  ((first
   | (go_at_call 268; refine (hS _).mono ?_; rintro e wC ⟨rfl, rfl⟩)
   | (go_at_call 277; (with_reducible refine (hT1 _).mono ?_); rintro e wC ⟨rfl, rfl⟩)
   | (go_at_call 277; (with_reducible refine (hT2 _).mono ?_); rintro e wC ⟨rfl, rfl⟩)))
 go_wp2_with fail
 go_ret
 exact ⟨rfl, hKW.drew⟩
theorem exch_found_yes (w : World) (t : Nat) (x : EV) (fv : Value) (ho : w.heap[t]? = some (.cells (x.cs fv) 386 (0, 0))) (hrw : 0 ≤ x.w ∧ x.w < 18446744073709551616) (z : Int) (hz : 0 ≤ z ∧ z < 18446744073709551616) (h : stateOf z = 3) (h2 : stampOf z = stampOf x.w) :
  Calls Tryz.prog 279 #[.pointer (some ⟨t, 0, none⟩), .int .u64 z] w fun e w' => e = .returned (.int .i64 0) ∧ Kp (fun k => k = t) w w' ∧ ∃ bt bn, w.heap.size ≤ bt ∧ w.heap.size ≤ bn ∧ w'.heap[t]? = some (.cells (EV.cs { x with i := sIdxOf z } (.func (.func 281) #[] #[.pointer (some ⟨bt, 0, none⟩), .pointer (some ⟨bn, 0, none⟩)])) 386 (0, 0)) ∧ w'.heap[bt]? = some (.cells #[.pointer (some ⟨t, 0, none⟩)] 371 (0, 0)) ∧ w'.heap[bn]? = some (.cells #[.int .u64 z] 33 (0, 0)) := by
 obtain ⟨q, fq, lq⟩ := obj_cells ho
 have c5 : w.cell? ⟨t, 5, none⟩ = some (.int .u64 x.w) := q 5
 have hS := fun w => slot_State z w hz
 have hT1 := fun w => slot_Stamp z w hz
 have hT2 := fun w => slot_Stamp x.w w hrw
 have t0 : (stateOf z != 3) = false := by rw [h]; rfl
 have t1 : (stampOf z != stampOf x.w) = false := by rw [h2]; simp
 clear h h2
 have HO := Lib.hid ho
 clear q fq ho
 go_enter Tryz.func279, Tryz.ntmps279
 go_wp2_with fail
 refine wp_world ?_
 intro W hW
 have hKW : Kp (fun _ => False) w W := by rw [hW]; exact Kp.nb (by go_grown)
 have hBt : W.heap[w.heap.size]? = some (.cells #[.pointer (some ⟨t, 0, none⟩)] 371 (0, 0)) := by rw [hW, hp_alloc _ _ _ (by simp)]; exact hp_new _ _ _ rfl
 have hBn : W.heap[w.heap.size + 1]? = some (.cells #[.int .u64 z] 33 (0, 0)) := by rw [hW]; exact hp_new _ _ _ (by simp)
 obtain ⟨qt, _, lt⟩ := obj_cells hBt
 obtain ⟨qn, _, ln⟩ := obj_cells hBn
 have ct : W.cell? ⟨w.heap.size, 0, none⟩ = some (.pointer (some ⟨t, 0, none⟩)) := qt 0
 have cn : W.cell? ⟨w.heap.size + 1, 0, none⟩ = some (.int .u64 z) := qn 0
 have d5 : W.cell? ⟨t, 5, none⟩ = some (.int .u64 x.w) := hKW.cell c5 (fun e => e)
 have HBt := Lib.hid hBt
 have HBn := Lib.hid hBn
 clear hW qt qn c5 hBt hBn
 go_region_held3 (fun w' => w'.cell? ⟨w.heap.size, 0, none⟩ = some (.pointer (some ⟨t, 0, none⟩)) ∧ w'.cell? ⟨w.heap.size + 1, 0, none⟩ = some (.int .u64 z) ∧ w'.cell? ⟨t, 5, none⟩ = some (.int .u64 x.w)) (exact ⟨ct, cn, d5⟩)
  ((first
   | (go_at_call 268; refine (hS _).mono ?_; rintro e wC ⟨rfl, rfl⟩)
   | (go_at_call 277; (with_reducible refine (hT1 _).mono ?_); rintro e wC ⟨rfl, rfl⟩)
   | (go_at_call 277; (with_reducible refine (hT2 _).mono ?_); rintro e wC ⟨rfl, rfl⟩)))
 have hOW := hKW.heap HO.out (fun e => e)
 obtain ⟨q, fq, lq2⟩ := obj_cells hOW
 have d2 : W.cell? ⟨t, 2, none⟩ = some (.int .u32 x.i) := q 2
 have d6 : W.cell? ⟨t, 6, none⟩ = some fv := q 6
 have HOW := Lib.hid hOW
 clear q hOW
 have fW : ∀ o, W.frozen? ⟨t, o, none⟩ = false := fq
 have st : (W.setCell ⟨t, 2, none⟩ (.int .u32 (sIdxOf z))).cell? ⟨w.heap.size, 0, none⟩ = some (.pointer (some ⟨t, 0, none⟩)) := (hs_other _ _ _ _ (by first | (simp; done) | (simp; omega))).trans ct
 have sn : (W.setCell ⟨t, 2, none⟩ (.int .u32 (sIdxOf z))).cell? ⟨w.heap.size + 1, 0, none⟩ = some (.int .u64 z) := (hs_other _ _ _ _ (by first | (simp; done) | (simp; omega))).trans cn
 have s2 : (W.setCell ⟨t, 2, none⟩ (.int .u32 (sIdxOf z))).cell? ⟨t, 2, none⟩ = some (.int .u32 (sIdxOf z)) := World.cell?_setCell_same _ _ _ d2
 have s6 : (W.setCell ⟨t, 2, none⟩ (.int .u32 (sIdxOf z))).cell? ⟨t, 6, none⟩ = some fv := (hs_other _ _ _ _ (by simp)).trans d6
 have sf : ∀ o, (W.setCell ⟨t, 2, none⟩ (.int .u32 (sIdxOf z))).frozen? ⟨t, o, none⟩ = false := fun o => (World.frozen?_setCell _ _ _ _).trans (fW o)
 have tsz : (t = w.heap.size) = False := eq_false (by omega)
 go_wp2_with fail
 go_region_held3 (fun w' => w'.cell? ⟨w.heap.size, 0, none⟩ = some (.pointer (some ⟨t, 0, none⟩)) ∧ w'.cell? ⟨w.heap.size + 1, 0, none⟩ = some (.int .u64 z) ∧ (w'.cell? ⟨t, 2, none⟩).isSome = true ∧ w'.frozen? ⟨t, 2, none⟩ = false) (first | exact ⟨ct, cn, isSome_of d2, fW 2⟩ | exact ⟨st, sn, isSome_of s2, sf 2⟩)
  ((go_at_call 273; refine (slot_Index z _ hz).mono ?_; rintro e wI ⟨rfl, rfl⟩))
 go_wp2_with fail
 go_ret
 refine ⟨rfl, (Kp.st (S := fun k => k = t) (Kp.st (S := fun k => k = t) (hKW.drew.drew.mono (fun _ e => e.elim)) (.inl rfl) 2 _) (.inl rfl) 6 _), ?_⟩
 refine ⟨w.heap.size, w.heap.size + 1, Nat.le_refl _, by omega, hp_same _ _ 6 _ (hp_same _ _ 2 _ HOW.out), (hp_other _ ⟨t, 6, none⟩ _ _ (by show w.heap.size ≠ t; omega)).trans ((hp_other _ ⟨t, 2, none⟩ _ _ (by show w.heap.size ≠ t; omega)).trans HBt.out), (hp_other _ ⟨t, 6, none⟩ _ _ (by show w.heap.size + 1 ≠ t; omega)).trans ((hp_other _ ⟨t, 2, none⟩ _ _ (by show w.heap.size + 1 ≠ t; omega)).trans HBn.out)⟩
end Go.Proofs.YtgdoeoackhfikaaGreatDoor

namespace Go.Proofs.YtgdoeoackhfikaaGreatDoor
open Go.RowKit Go.Proofs.YtgdoeoackhfikaaGreatDoorW.PrintWords
set_option maxRecDepth 100000
set_option maxHeartbeats 4000000
set_option linter.unusedSimpArgs false
set_option linter.unusedVariables false
attribute [local go_sem] hs_other hs_alloc hs_falloc run_store_func run_makeFunc
attribute [local go_sem ↓] Go.wp_at_zero Go.wp_at_succ
theorem exch_look (w : World) (b : MB) (σ : MemS) (hb : MemAt w b σ) (hfn : σ.notes.length < 1000000000) (F : Nat → Prop) (hA : Apart w b F) (t : Nat) (x : EV) (hx : EVAt w F t x) (hn : x.nx = .look) (now : Int) :
  Calls Tryz.prog 275 #[.pointer (some ⟨t, 0, none⟩), .pointer (some ⟨b.m, 0, none⟩), .int .u64 now] w (EPhase w b F t (x.next σ now).1 (x.next σ now).2.1 (x.next σ now).2.2) := by
 obtain ⟨hF, ⟨fv, ho, hf⟩, hri, hrw, hrn⟩ := hx
 obtain ⟨at_, push, i, dl, looks, ww, nx, st, off⟩ := x
 simp only at hn hri hrw
 subst hn
 have hf' : fv = .func (.func 275) #[.pointer (some ⟨t, 0, none⟩)] #[] := hf
 subst hf'
 have ho1 : w.heap[t]? = some (.cells #[.int .i64 at_, .bool push, .int .u32 i, .int .u64 dl, .int .i64 looks, .int .u64 ww, .func (.func 275) #[.pointer (some ⟨t, 0, none⟩)] #[], .int .i64 st, .bool off] 386 (0, 0)) := ho
 have ht : ¬ b.has t := hb.not_has ho (by decide) (by decide) (by decide)
 have HO := Lib.hid ho1
 have lt := lt_of_heap ho
 clear ho hf ho1
 by_cases hh : σ.has at_
 ·go_enter Tryz.func275, Tryz.ntmps275
  go_wp2_with fail
  refine any_world (p := fun W => Calls Tryz.prog _ _ W _) ?_
  intro W hW
  have hKW : Kp (fun _ => False) w W := by rw [hW]; exact Kp.nb (by go_grown)
  have hBW : W.heap[w.heap.size]? = some (.cells #[.pointer (some ⟨t, 0, none⟩)] 371 (0, 0)) := by rw [hW, hp_alloc _ _ _ (by simp)]; exact hp_new _ _ _ rfl
  have hNW : W.heap[w.heap.size + 1]? = some (.cells #[.int .u64 now] 33 (0, 0)) := by rw [hW]; exact hp_new _ _ _ (by simp)
  have hOW := hKW.heap HO.out (fun e => e)
  have htB : ¬ b.has w.heap.size := fun e => by have := hb.lt _ e; omega
  have htN : ¬ b.has (w.heap.size + 1) := fun e => by have := hb.lt _ e; omega
  obtain ⟨q, fq, lq⟩ := obj_cells hOW
  have c0 : W.cell? ⟨t, 0, none⟩ = some (.int .i64 at_) := q 0
  have HBW := Lib.hid hBW
  have HNW := Lib.hid hNW
  have HOW := Lib.hid hOW
  clear hW hBW hOW hNW q fq
  go_in
  go_wp2_with fail
  refine (mem_load W b σ (hb.same hKW) hfn at_).mono ?_
  rintro e w1 hS
  obtain ⟨rfl, hp⟩ := hS.1 hh
  have hzr := hb.getI hh
  generalize hz : σ.get at_ = z at *
  have HZ := Lib.hid hz
  have hO1 := hp.kp.heap HOW.out ht
  have hB1 := hp.kp.heap HBW.out htB
  have hN1 := hp.kp.heap HNW.out htN
  obtain ⟨q, fq, lq1⟩ := obj_cells hO1
  obtain ⟨qb, fb, lb1⟩ := obj_cells hB1
  obtain ⟨qn, fn, ln1⟩ := obj_cells hN1
  have HO1 := Lib.hid hO1
  clear hS hO1 hB1 hN1 hz c0
  go_wp2_with fail
  go_in
  by_cases hzw : z = ww
  ·subst hzw
   go_wp2_with fail
   generalize hnn : wrap64 (looks - 1) = n at *
   have HN := Lib.hid hnn
   clear hnn
   refine wp_world ?_
   intro V hV
   have hOV : V.heap[t]? = some (.cells #[.int .i64 at_, .bool push, .int .u32 i, .int .u64 dl, .int .i64 n, .int .u64 z, .func (.func 275) #[.pointer (some ⟨t, 0, none⟩)] #[], .int .i64 st, .bool off] 386 (0, 0)) := by rw [hV]; exact hp_same _ _ 4 (.int .i64 n) HO1.out
   have ct : V.cell? ⟨w.heap.size, 0, none⟩ = some (.pointer (some ⟨t, 0, none⟩)) := by rw [hV]; exact (hs_other _ _ _ _ (eq_false (fun e => by have := congrArg Addr.block e; simp at this; omega))).trans (qb 0)
   have cn : V.cell? ⟨w.heap.size + 1, 0, none⟩ = some (.int .u64 now) := by rw [hV]; exact (hs_other _ _ _ _ (eq_false (fun e => by have := congrArg Addr.block e; simp at this; omega))).trans (qn 0)
   have hKV : Kp (fun k => F k ∨ (w.heap.size ≤ k ∧ k < W.heap.size)) w1 V := by rw [hV]; exact Kp.st (S := fun k => F k ∨ (w.heap.size ≤ k ∧ k < W.heap.size)) (Kp.refl _ _) (.inl (.inl hF)) 4 _
   obtain ⟨q3, fq3, lq3⟩ := obj_cells hOV
   have c3 : V.cell? ⟨t, 3, none⟩ = some (.int .u64 dl) := q3 3
   have c4 : V.cell? ⟨t, 4, none⟩ = some (.int .i64 n) := q3 4
   have c6 : V.cell? ⟨t, 6, none⟩ = some (.func (.func 275) #[.pointer (some ⟨t, 0, none⟩)] #[]) := q3 6
   have f6 : V.frozen? ⟨t, 6, none⟩ = false := fq3 6
   have HOV := Lib.hid hOV
   have HKV := Lib.hid hKV
   clear hV hOV hKV q3 fq3 q qb qn fq fb fn
   by_cases hn0 : n ≤ 0
   ·have t1 : decide (n ≤ 0) = true := by simpa using hn0
    have e : EV.next ⟨at_, push, i, dl, looks, z, .look, st, off⟩ σ now = (⟨at_, push, i, dl, n, z, .withdraw, st, off⟩, σ.load at_, 0) := by simp [EV.next, hh, HZ.out, HN.out, hn0]
    have HE := Lib.hid e
    clear e
    go_region_with (fail)
    all_goals go_wp2_with fail
    all_goals go_ret
    all_goals rw [HE.out]
    all_goals exact ⟨rfl, Post.mk3 hb hA hKW hp (HKV.out.drew.st (.inl (.inl hF)) 6 _) (fun F' h1 h2 h3 => ⟨h1 _ hF, ⟨_, hp_same _ _ 6 _ HOV.out, rfl⟩, hri, hrw, (fun n e => by cases e)⟩)⟩
   ·have t1 : decide (n ≤ 0) = false := by simpa using hn0
    by_cases hd : dl ≤ now
    ·have t2 : decide (dl ≤ now) = true := by simpa using hd
     have e : EV.next ⟨at_, push, i, dl, looks, z, .look, st, off⟩ σ now = (⟨at_, push, i, dl, n, z, .withdraw, st, off⟩, σ.load at_, 0) := by simp [EV.next, hh, HZ.out, HN.out, hn0, hd]
     have HE := Lib.hid e
     clear e
     go_region_held3 (fun w' => w'.cell? ⟨w.heap.size, 0, none⟩ = some (.pointer (some ⟨t, 0, none⟩)) ∧ w'.cell? ⟨w.heap.size + 1, 0, none⟩ = some (.int .u64 now) ∧ w'.cell? ⟨t, 3, none⟩ = some (.int .u64 dl) ∧ w'.cell? ⟨t, 4, none⟩ = some (.int .i64 n)) (exact ⟨ct, cn, c3, c4⟩) (fail)
     go_wp2_with fail
     go_ret
     rw [HE.out]
     exact ⟨rfl, Post.mk3 hb hA hKW hp (HKV.out.drew.st (.inl (.inl hF)) 6 _) (fun F' h1 h2 h3 => ⟨h1 _ hF, ⟨_, hp_same _ _ 6 _ HOV.out, rfl⟩, hri, hrw, (fun n e => by cases e)⟩)⟩
    ·have t2 : decide (dl ≤ now) = false := by simpa using hd
     have e : EV.next ⟨at_, push, i, dl, looks, z, .look, st, off⟩ σ now = (⟨at_, push, i, dl, n, z, .look, st, off⟩, σ.load at_, 0) := by simp [EV.next, hh, HZ.out, HN.out, hn0, hd]
     have HE := Lib.hid e
     clear e
     go_region_held3 (fun w' => w'.cell? ⟨w.heap.size, 0, none⟩ = some (.pointer (some ⟨t, 0, none⟩)) ∧ w'.cell? ⟨w.heap.size + 1, 0, none⟩ = some (.int .u64 now) ∧ w'.cell? ⟨t, 3, none⟩ = some (.int .u64 dl) ∧ w'.cell? ⟨t, 4, none⟩ = some (.int .i64 n)) (exact ⟨ct, cn, c3, c4⟩) (fail)
     go_wp2_with fail
     go_ret
     rw [HE.out]
     exact ⟨rfl, Post.mk3 hb hA hKW hp (HKV.out.drew) (fun F' h1 h2 h3 => ⟨h1 _ hF, ⟨_, HOV.out, rfl⟩, hri, hrw, (fun n e => by cases e)⟩)⟩
  ·have t0 : (z != ww) = true := by rw [bne_iff_ne]; exact hzw
   go_wp2_with fail
   by_cases hs3 : stateOf z = 3
   ·by_cases hst : stampOf z = stampOf ww
    ·refine (exch_found_yes w1 t ⟨at_, push, i, dl, looks, ww, .look, st, off⟩ (.func (.func 275) #[.pointer (some ⟨t, 0, none⟩)] #[]) HO1.out hrw z hzr hs3 hst).mono ?_
     rintro e w2 ⟨rfl, hk, bt, bn, hbt, hbn, ho2, hot, hon⟩
     have e : EV.next ⟨at_, push, i, dl, looks, ww, .look, st, off⟩ σ now = (⟨at_, push, sIdxOf z, dl, looks, ww, .found z, st, off⟩, σ.load at_, 0) := by simp [EV.next, hh, HZ.out, hzw, hs3, hst]
     have HE := Lib.hid e
     have H2 := Lib.hid ho2
     have H3 := Lib.hid hot
     have H4 := Lib.hid hon
     clear e q qb qn ho2 hot hon
     go_wp2_with fail
     go_ret
     rw [HE.out]
     exact ⟨rfl, Post.mk3 hb hA hKW hp (hk.mono (fun k e => .inl (by rw [e]; exact hF))) (fun F' h1 h2 h3 => ⟨h1 _ hF, ⟨_, H2.out, ⟨bt, bn, h3 _ hbt (lt_of_heap H3.out), h3 _ hbn (lt_of_heap H4.out), rfl, H3.out, H4.out⟩⟩, sIdxOf_range _, hrw, (fun n e => by cases e; exact hzr)⟩)⟩
    ·refine (exch_found_no2 w1 t ⟨at_, push, i, dl, looks, ww, .look, st, off⟩ (.func (.func 275) #[.pointer (some ⟨t, 0, none⟩)] #[]) HO1.out hrw z hzr hs3 hst).mono ?_
     rintro e w2 ⟨rfl, hk⟩
     have e : EV.next ⟨at_, push, i, dl, looks, ww, .look, st, off⟩ σ now = (⟨at_, push, i, dl, looks, ww, .look, st, off⟩, σ.load at_, 5) := by simp [EV.next, hh, HZ.out, hzw, hs3, hst]
     have HE := Lib.hid e
     clear e q qb qn
     go_wp2_with fail
     go_ret
     rw [HE.out]
     exact ⟨rfl, Post.mk3 hb hA hKW hp (hk.mono (fun _ e => e.elim)) (fun F' h1 h2 h3 => ⟨h1 _ hF, ⟨_, hk.heap HO1.out (fun e => e), rfl⟩, hri, hrw, (fun n e => by cases e)⟩)⟩
   ·refine (exch_found_no1 w1 t ⟨at_, push, i, dl, looks, ww, .look, st, off⟩ (.func (.func 275) #[.pointer (some ⟨t, 0, none⟩)] #[]) HO1.out hrw z hzr hs3).mono ?_
    rintro e w2 ⟨rfl, hk⟩
    have e : EV.next ⟨at_, push, i, dl, looks, ww, .look, st, off⟩ σ now = (⟨at_, push, i, dl, looks, ww, .look, st, off⟩, σ.load at_, 5) := by simp [EV.next, hh, HZ.out, hzw, hs3]
    have HE := Lib.hid e
    clear e q qb qn
    go_wp2_with fail
    go_ret
    rw [HE.out]
    exact ⟨rfl, Post.mk3 hb hA hKW hp (hk.mono (fun _ e => e.elim)) (fun F' h1 h2 h3 => ⟨h1 _ hF, ⟨_, hk.heap HO1.out (fun e => e), rfl⟩, hri, hrw, (fun n e => by cases e)⟩)⟩
 ·go_enter Tryz.func275, Tryz.ntmps275
  go_wp2_with fail
  refine any_world (p := fun W => Calls Tryz.prog _ _ W _) ?_
  intro W hW
  have hKW : Kp (fun _ => False) w W := by rw [hW]; exact Kp.nb (by go_grown)
  have hOW := hKW.heap HO.out (fun e => e)
  obtain ⟨q, fq, lq⟩ := obj_cells hOW
  have c0 : W.cell? ⟨t, 0, none⟩ = some (.int .i64 at_) := q 0
  have HOW := Lib.hid hOW
  clear hW hOW q fq
  go_in
  go_wp2_with fail
  refine (mem_load W b σ (hb.same hKW) hfn at_).mono ?_
  rintro e w1 hS
  obtain ⟨rfl, hpk⟩ := hS.2 hh
  clear hS c0
  go_wp2_with fail
  go_ret
  have e : EV.next ⟨at_, push, i, dl, looks, ww, .look, st, off⟩ σ now = (⟨at_, push, i, dl, looks, ww, .look, st, off⟩, σ, 5) := by simp [EV.next, hh]
  rw [e]
  exact ⟨rfl, Post.mk0 hb hA ((hKW.comp hpk (fun _ _ e => e)).mono (fun _ e => e.elim)) (fun F' h1 h2 => ⟨h1 _ hF, ⟨_, hpk.heap HOW.out (fun e => e), rfl⟩, hri, hrw, (fun n e => by cases e)⟩)⟩
end Go.Proofs.YtgdoeoackhfikaaGreatDoor

namespace Go.Proofs.YtgdoeoackhfikaaGreatDoor
open Go.RowKit Go.Proofs.YtgdoeoackhfikaaGreatDoorW.PrintWords
set_option maxRecDepth 100000
set_option maxHeartbeats 4000000
set_option linter.unusedSimpArgs false
set_option linter.unusedVariables false
attribute [local go_sem] hs_other hs_alloc hs_falloc run_store_func run_makeFunc
attribute [local go_sem ↓] Go.wp_at_zero Go.wp_at_succ
def VisitPost (w : World) (b : MB) (F : Nat → Prop) (t : Nat) (y : EV) (σ' : MemS) (e : Ending) (w' : World) : Prop :=
 e = .returned (.tuple #[.int .i64 y.st, .int .u32 y.told]) ∧ Post F w b σ' w' (fun W F' => EVAt W F' t y)
theorem Post.statusE {w w1 : World} {b : MB} {σ' : MemS} {F : Nat → Prop} {t : Nat} {y : EV} (hA : Apart w b F) (hF : F t) (h : Post F w b σ' w1 (fun W F' => EVAt W F' t y)) (s : Int) {σ : MemS} (hb : MemAt w b σ) :
  Post F w b σ' (w1.setCell ⟨t, 7, none⟩ (.int .i64 s)) (fun W F' => EVAt W F' t { y with st := s }) := by
 obtain ⟨nv', hm, hn, hk, hF', ⟨fv, ho, hf⟩, h1, h2, h4⟩ := h
 have hA' := hA.next hb hm hn hk.size
 have hKp : Kp (fun k => k = t) w1 (w1.setCell ⟨t, 7, none⟩ (.int .i64 s)) := Kp.st (S := fun k => k = t) (Kp.refl _ _) (.inl rfl) 7 _
 have e : grownF F w (w1.setCell ⟨t, 7, none⟩ (.int .i64 s)) nv' = grownF F w w1 nv' := by
  funext k
  unfold grownF
  rw [World.size_setCell]
 refine ⟨nv', hm.kept hKp (fun k hk' e' => hA'.ne t hF' (by rw [← e']; exact hk')), hn, hk.comp hKp (fun k _ e' => .inl (by rw [e']; exact hF)), ?_⟩
 rw [e]
 exact ⟨hF', ⟨fv, hp_same _ _ 7 _ ho, hf.kept ho (fun k o _ hk' hne => (hp_other _ ⟨t, 7, none⟩ _ _ hne).trans hk') (fun _ h => h)⟩, h1, h2, h4⟩
theorem Post.cellsE {w w1 : World} {b : MB} {σ' : MemS} {F : Nat → Prop} {t : Nat} {y : EV} (h : Post F w b σ' w1 (fun W F' => EVAt W F' t y)) : ∃ fv, w1.heap[t]? = some (.cells (y.cs fv) 386 (0, 0)) := by
 obtain ⟨_, _, _, _, _, ⟨fv, ho, _⟩, _⟩ := h
 exact ⟨fv, ho⟩
theorem Post.drewE {F : Nat → Prop} {w w' : World} {b : MB} {σ' : MemS} {t : Nat} {y : EV} (h : Post F w b σ' w' (fun W F' => EVAt W F' t y)) : Post F w b σ' w'.drew (fun W F' => EVAt W F' t y) := h.drewX (fun F' h => h.kept (fun _ _ _ ho => ho) (fun _ h => h))
theorem exch_step_first (w : World) (b : MB) (σ : MemS) (hb : MemAt w b σ) (hfn : σ.notes.length < 1000000000) (F : Nat → Prop) (hA : Apart w b F) (t : Nat) (x : EV) (hx : EVAt w F t x) (hn : x.nx = .first) (hs : x.st = 0) (now : Int) :
  Calls Tryz.prog 250 #[.pointer (some ⟨t, 0, none⟩), .pointer (some ⟨b.m, 0, none⟩), .int .u64 now] w (VisitPost w b F t (x.step σ now).1 (x.step σ now).2) := by
 have hF := hx.own
 obtain ⟨fv, ho, hf⟩ := hx.obj
 rw [hn] at hf
 have hd := exch_first w b σ hb hfn F hA t x hx hn now
 have hf' : fv = .func (.func 262) #[.pointer (some ⟨t, 0, none⟩)] #[] := hf
 subst hf'
 have e : x.step σ now = ({ (x.next σ now).1 with st := (x.next σ now).2.2 }, (x.next σ now).2.1) := by unfold EV.step; rw [if_pos hs]
 rw [e]
 clear e
 generalize x.next σ now = r at *
 obtain ⟨y, σ', s⟩ := r
 simp only at hd ⊢
 obtain ⟨q, fq, lq⟩ := obj_cells ho
 have c6 : w.cell? ⟨t, 6, none⟩ = some (.func (.func 262) #[.pointer (some ⟨t, 0, none⟩)] #[]) := q 6
 have c7 : w.cell? ⟨t, 7, none⟩ = some (.int .i64 0) := by rw [q 7]; simp [EV.cs, hs]
 clear q fq ho hf
 go_enter Tryz.func250, Tryz.ntmps250
 go_wp2_with fail
 refine hd.mono ?_
 rintro e w1 ⟨rfl, hP⟩
 have hP2 := hP.statusE hA hF s hb
 obtain ⟨fv1, ho1⟩ := hP.cellsE
 obtain ⟨fv2, ho2⟩ := hP2.cellsE
 obtain ⟨q1, fq1, lq1⟩ := obj_cells ho1
 obtain ⟨q2, fq2, lq2⟩ := obj_cells ho2
 have d7 : w1.cell? ⟨t, 7, none⟩ = some (.int .i64 y.st) := q1 7
 have f7 : w1.frozen? ⟨t, 7, none⟩ = false := fq1 7
 have g1 : (w1.setCell ⟨t, 7, none⟩ (.int .i64 s)).cell? ⟨t, 1, none⟩ = some (.bool y.push) := q2 1
 have g2 : (w1.setCell ⟨t, 7, none⟩ (.int .i64 s)).cell? ⟨t, 2, none⟩ = some (.int .u32 y.i) := q2 2
 have g7 : (w1.setCell ⟨t, 7, none⟩ (.int .i64 s)).cell? ⟨t, 7, none⟩ = some (.int .i64 s) := q2 7
 have HP := Lib.hid hP2
 clear q1 q2 fq1 fq2 ho1 ho2 c6 c7 hP hP2 hd
 by_cases h1 : s = 1
 ·have t1 : (s != 1) = false := by rw [h1]; rfl
  cases hp : y.push with
  | false =>
   have e2 : EV.told { y with st := s } = y.i := by unfold EV.told; rw [if_pos ⟨h1, hp⟩]
   have HE := Lib.hid e2
   rw [hp] at g1
   clear e2 h1 hp
   go_wp2_with fail
   go_region_held3 (fun w' => w'.cell? ⟨t, 2, none⟩ = some (.int .u32 y.i) ∧ w'.cell? ⟨t, 7, none⟩ = some (.int .i64 s)) (exact ⟨g2, g7⟩) (fail)
   go_wp2
   go_ret2
   refine ⟨?_, HP.out.drewE⟩
   rw [HE.out]
   rfl
  | true =>
   have e2 : EV.told { y with st := s } = 0 := by unfold EV.told; rw [if_neg (by rw [hp]; simp)]
   have HE := Lib.hid e2
   rw [hp] at g1
   clear e2 h1 hp
   go_wp2_with fail
   go_ret2
   refine ⟨?_, HP.out⟩
   rw [HE.out]
   rfl
 ·have t1 : (s != 1) = true := by rw [bne_iff_ne]; exact h1
  have e2 : EV.told { y with st := s } = 0 := by unfold EV.told; rw [if_neg (fun h => h1 h.1)]
  have HE := Lib.hid e2
  clear e2 h1
  go_wp2_with fail
  go_ret2
  refine ⟨?_, HP.out⟩
  rw [HE.out]
  rfl
theorem exch_step_claim (w : World) (b : MB) (σ : MemS) (hb : MemAt w b σ) (hfn : σ.notes.length < 1000000000) (F : Nat → Prop) (hA : Apart w b F) (t : Nat) (x : EV) (hx : EVAt w F t x) (hn : x.nx = .claim) (hs : x.st = 0) (now : Int) :
  Calls Tryz.prog 250 #[.pointer (some ⟨t, 0, none⟩), .pointer (some ⟨b.m, 0, none⟩), .int .u64 now] w (VisitPost w b F t (x.step σ now).1 (x.step σ now).2) := by
 have hF := hx.own
 obtain ⟨fv, ho, hf⟩ := hx.obj
 rw [hn] at hf
 have hd := exch_claim w b σ hb hfn F hA t x hx hn now
 have hf' : fv = .func (.func 267) #[.pointer (some ⟨t, 0, none⟩)] #[] := hf
 subst hf'
 have e : x.step σ now = ({ (x.next σ now).1 with st := (x.next σ now).2.2 }, (x.next σ now).2.1) := by unfold EV.step; rw [if_pos hs]
 rw [e]
 clear e
 generalize x.next σ now = r at *
 obtain ⟨y, σ', s⟩ := r
 simp only at hd ⊢
 obtain ⟨q, fq, lq⟩ := obj_cells ho
 have c6 : w.cell? ⟨t, 6, none⟩ = some (.func (.func 267) #[.pointer (some ⟨t, 0, none⟩)] #[]) := q 6
 have c7 : w.cell? ⟨t, 7, none⟩ = some (.int .i64 0) := by rw [q 7]; simp [EV.cs, hs]
 clear q fq ho hf
 go_enter Tryz.func250, Tryz.ntmps250
 go_wp2_with fail
 refine hd.mono ?_
 rintro e w1 ⟨rfl, hP⟩
 have hP2 := hP.statusE hA hF s hb
 obtain ⟨fv1, ho1⟩ := hP.cellsE
 obtain ⟨fv2, ho2⟩ := hP2.cellsE
 obtain ⟨q1, fq1, lq1⟩ := obj_cells ho1
 obtain ⟨q2, fq2, lq2⟩ := obj_cells ho2
 have d7 : w1.cell? ⟨t, 7, none⟩ = some (.int .i64 y.st) := q1 7
 have f7 : w1.frozen? ⟨t, 7, none⟩ = false := fq1 7
 have g1 : (w1.setCell ⟨t, 7, none⟩ (.int .i64 s)).cell? ⟨t, 1, none⟩ = some (.bool y.push) := q2 1
 have g2 : (w1.setCell ⟨t, 7, none⟩ (.int .i64 s)).cell? ⟨t, 2, none⟩ = some (.int .u32 y.i) := q2 2
 have g7 : (w1.setCell ⟨t, 7, none⟩ (.int .i64 s)).cell? ⟨t, 7, none⟩ = some (.int .i64 s) := q2 7
 have HP := Lib.hid hP2
 clear q1 q2 fq1 fq2 ho1 ho2 c6 c7 hP hP2 hd
 by_cases h1 : s = 1
 ·have t1 : (s != 1) = false := by rw [h1]; rfl
  cases hp : y.push with
  | false =>
   have e2 : EV.told { y with st := s } = y.i := by unfold EV.told; rw [if_pos ⟨h1, hp⟩]
   have HE := Lib.hid e2
   rw [hp] at g1
   clear e2 h1 hp
   go_wp2_with fail
   go_region_held3 (fun w' => w'.cell? ⟨t, 2, none⟩ = some (.int .u32 y.i) ∧ w'.cell? ⟨t, 7, none⟩ = some (.int .i64 s)) (exact ⟨g2, g7⟩) (fail)
   go_wp2
   go_ret2
   refine ⟨?_, HP.out.drewE⟩
   rw [HE.out]
   rfl
  | true =>
   have e2 : EV.told { y with st := s } = 0 := by unfold EV.told; rw [if_neg (by rw [hp]; simp)]
   have HE := Lib.hid e2
   rw [hp] at g1
   clear e2 h1 hp
   go_wp2_with fail
   go_ret2
   refine ⟨?_, HP.out⟩
   rw [HE.out]
   rfl
 ·have t1 : (s != 1) = true := by rw [bne_iff_ne]; exact h1
  have e2 : EV.told { y with st := s } = 0 := by unfold EV.told; rw [if_neg (fun h => h1 h.1)]
  have HE := Lib.hid e2
  clear e2 h1
  go_wp2_with fail
  go_ret2
  refine ⟨?_, HP.out⟩
  rw [HE.out]
  rfl
theorem exch_step_offer (w : World) (b : MB) (σ : MemS) (hb : MemAt w b σ) (hfn : σ.notes.length < 1000000000) (F : Nat → Prop) (hA : Apart w b F) (t : Nat) (x : EV) (hx : EVAt w F t x) (hn : x.nx = .offer) (hs : x.st = 0) (now : Int) :
  Calls Tryz.prog 250 #[.pointer (some ⟨t, 0, none⟩), .pointer (some ⟨b.m, 0, none⟩), .int .u64 now] w (VisitPost w b F t (x.step σ now).1 (x.step σ now).2) := by
 have hF := hx.own
 obtain ⟨fv, ho, hf⟩ := hx.obj
 rw [hn] at hf
 have hd := exch_offer w b σ hb hfn F hA t x hx hn now
 have hf' : fv = .func (.func 269) #[.pointer (some ⟨t, 0, none⟩)] #[] := hf
 subst hf'
 have e : x.step σ now = ({ (x.next σ now).1 with st := (x.next σ now).2.2 }, (x.next σ now).2.1) := by unfold EV.step; rw [if_pos hs]
 rw [e]
 clear e
 generalize x.next σ now = r at *
 obtain ⟨y, σ', s⟩ := r
 simp only at hd ⊢
 obtain ⟨q, fq, lq⟩ := obj_cells ho
 have c6 : w.cell? ⟨t, 6, none⟩ = some (.func (.func 269) #[.pointer (some ⟨t, 0, none⟩)] #[]) := q 6
 have c7 : w.cell? ⟨t, 7, none⟩ = some (.int .i64 0) := by rw [q 7]; simp [EV.cs, hs]
 clear q fq ho hf
 go_enter Tryz.func250, Tryz.ntmps250
 go_wp2_with fail
 refine hd.mono ?_
 rintro e w1 ⟨rfl, hP⟩
 have hP2 := hP.statusE hA hF s hb
 obtain ⟨fv1, ho1⟩ := hP.cellsE
 obtain ⟨fv2, ho2⟩ := hP2.cellsE
 obtain ⟨q1, fq1, lq1⟩ := obj_cells ho1
 obtain ⟨q2, fq2, lq2⟩ := obj_cells ho2
 have d7 : w1.cell? ⟨t, 7, none⟩ = some (.int .i64 y.st) := q1 7
 have f7 : w1.frozen? ⟨t, 7, none⟩ = false := fq1 7
 have g1 : (w1.setCell ⟨t, 7, none⟩ (.int .i64 s)).cell? ⟨t, 1, none⟩ = some (.bool y.push) := q2 1
 have g2 : (w1.setCell ⟨t, 7, none⟩ (.int .i64 s)).cell? ⟨t, 2, none⟩ = some (.int .u32 y.i) := q2 2
 have g7 : (w1.setCell ⟨t, 7, none⟩ (.int .i64 s)).cell? ⟨t, 7, none⟩ = some (.int .i64 s) := q2 7
 have HP := Lib.hid hP2
 clear q1 q2 fq1 fq2 ho1 ho2 c6 c7 hP hP2 hd
 by_cases h1 : s = 1
 ·have t1 : (s != 1) = false := by rw [h1]; rfl
  cases hp : y.push with
  | false =>
   have e2 : EV.told { y with st := s } = y.i := by unfold EV.told; rw [if_pos ⟨h1, hp⟩]
   have HE := Lib.hid e2
   rw [hp] at g1
   clear e2 h1 hp
   go_wp2_with fail
   go_region_held3 (fun w' => w'.cell? ⟨t, 2, none⟩ = some (.int .u32 y.i) ∧ w'.cell? ⟨t, 7, none⟩ = some (.int .i64 s)) (exact ⟨g2, g7⟩) (fail)
   go_wp2
   go_ret2
   refine ⟨?_, HP.out.drewE⟩
   rw [HE.out]
   rfl
  | true =>
   have e2 : EV.told { y with st := s } = 0 := by unfold EV.told; rw [if_neg (by rw [hp]; simp)]
   have HE := Lib.hid e2
   rw [hp] at g1
   clear e2 h1 hp
   go_wp2_with fail
   go_ret2
   refine ⟨?_, HP.out⟩
   rw [HE.out]
   rfl
 ·have t1 : (s != 1) = true := by rw [bne_iff_ne]; exact h1
  have e2 : EV.told { y with st := s } = 0 := by unfold EV.told; rw [if_neg (fun h => h1 h.1)]
  have HE := Lib.hid e2
  clear e2 h1
  go_wp2_with fail
  go_ret2
  refine ⟨?_, HP.out⟩
  rw [HE.out]
  rfl
theorem exch_step_look (w : World) (b : MB) (σ : MemS) (hb : MemAt w b σ) (hfn : σ.notes.length < 1000000000) (F : Nat → Prop) (hA : Apart w b F) (t : Nat) (x : EV) (hx : EVAt w F t x) (hn : x.nx = .look) (hs : x.st = 0) (now : Int) :
  Calls Tryz.prog 250 #[.pointer (some ⟨t, 0, none⟩), .pointer (some ⟨b.m, 0, none⟩), .int .u64 now] w (VisitPost w b F t (x.step σ now).1 (x.step σ now).2) := by
 have hF := hx.own
 obtain ⟨fv, ho, hf⟩ := hx.obj
 rw [hn] at hf
 have hd := exch_look w b σ hb hfn F hA t x hx hn now
 have hf' : fv = .func (.func 275) #[.pointer (some ⟨t, 0, none⟩)] #[] := hf
 subst hf'
 have e : x.step σ now = ({ (x.next σ now).1 with st := (x.next σ now).2.2 }, (x.next σ now).2.1) := by unfold EV.step; rw [if_pos hs]
 rw [e]
 clear e
 generalize x.next σ now = r at *
 obtain ⟨y, σ', s⟩ := r
 simp only at hd ⊢
 obtain ⟨q, fq, lq⟩ := obj_cells ho
 have c6 : w.cell? ⟨t, 6, none⟩ = some (.func (.func 275) #[.pointer (some ⟨t, 0, none⟩)] #[]) := q 6
 have c7 : w.cell? ⟨t, 7, none⟩ = some (.int .i64 0) := by rw [q 7]; simp [EV.cs, hs]
 clear q fq ho hf
 go_enter Tryz.func250, Tryz.ntmps250
 go_wp2_with fail
 refine hd.mono ?_
 rintro e w1 ⟨rfl, hP⟩
 have hP2 := hP.statusE hA hF s hb
 obtain ⟨fv1, ho1⟩ := hP.cellsE
 obtain ⟨fv2, ho2⟩ := hP2.cellsE
 obtain ⟨q1, fq1, lq1⟩ := obj_cells ho1
 obtain ⟨q2, fq2, lq2⟩ := obj_cells ho2
 have d7 : w1.cell? ⟨t, 7, none⟩ = some (.int .i64 y.st) := q1 7
 have f7 : w1.frozen? ⟨t, 7, none⟩ = false := fq1 7
 have g1 : (w1.setCell ⟨t, 7, none⟩ (.int .i64 s)).cell? ⟨t, 1, none⟩ = some (.bool y.push) := q2 1
 have g2 : (w1.setCell ⟨t, 7, none⟩ (.int .i64 s)).cell? ⟨t, 2, none⟩ = some (.int .u32 y.i) := q2 2
 have g7 : (w1.setCell ⟨t, 7, none⟩ (.int .i64 s)).cell? ⟨t, 7, none⟩ = some (.int .i64 s) := q2 7
 have HP := Lib.hid hP2
 clear q1 q2 fq1 fq2 ho1 ho2 c6 c7 hP hP2 hd
 by_cases h1 : s = 1
 ·have t1 : (s != 1) = false := by rw [h1]; rfl
  cases hp : y.push with
  | false =>
   have e2 : EV.told { y with st := s } = y.i := by unfold EV.told; rw [if_pos ⟨h1, hp⟩]
   have HE := Lib.hid e2
   rw [hp] at g1
   clear e2 h1 hp
   go_wp2_with fail
   go_region_held3 (fun w' => w'.cell? ⟨t, 2, none⟩ = some (.int .u32 y.i) ∧ w'.cell? ⟨t, 7, none⟩ = some (.int .i64 s)) (exact ⟨g2, g7⟩) (fail)
   go_wp2
   go_ret2
   refine ⟨?_, HP.out.drewE⟩
   rw [HE.out]
   rfl
  | true =>
   have e2 : EV.told { y with st := s } = 0 := by unfold EV.told; rw [if_neg (by rw [hp]; simp)]
   have HE := Lib.hid e2
   rw [hp] at g1
   clear e2 h1 hp
   go_wp2_with fail
   go_ret2
   refine ⟨?_, HP.out⟩
   rw [HE.out]
   rfl
 ·have t1 : (s != 1) = true := by rw [bne_iff_ne]; exact h1
  have e2 : EV.told { y with st := s } = 0 := by unfold EV.told; rw [if_neg (fun h => h1 h.1)]
  have HE := Lib.hid e2
  clear e2 h1
  go_wp2_with fail
  go_ret2
  refine ⟨?_, HP.out⟩
  rw [HE.out]
  rfl
theorem exch_step_withdraw (w : World) (b : MB) (σ : MemS) (hb : MemAt w b σ) (hfn : σ.notes.length < 1000000000) (F : Nat → Prop) (hA : Apart w b F) (t : Nat) (x : EV) (hx : EVAt w F t x) (hn : x.nx = .withdraw) (hs : x.st = 0) (now : Int) :
  Calls Tryz.prog 250 #[.pointer (some ⟨t, 0, none⟩), .pointer (some ⟨b.m, 0, none⟩), .int .u64 now] w (VisitPost w b F t (x.step σ now).1 (x.step σ now).2) := by
 have hF := hx.own
 obtain ⟨fv, ho, hf⟩ := hx.obj
 rw [hn] at hf
 have hd := exch_withdraw w b σ hb hfn F hA t x hx hn now
 have hf' : fv = .func (.func 280) #[.pointer (some ⟨t, 0, none⟩)] #[] := hf
 subst hf'
 have e : x.step σ now = ({ (x.next σ now).1 with st := (x.next σ now).2.2 }, (x.next σ now).2.1) := by unfold EV.step; rw [if_pos hs]
 rw [e]
 clear e
 generalize x.next σ now = r at *
 obtain ⟨y, σ', s⟩ := r
 simp only at hd ⊢
 obtain ⟨q, fq, lq⟩ := obj_cells ho
 have c6 : w.cell? ⟨t, 6, none⟩ = some (.func (.func 280) #[.pointer (some ⟨t, 0, none⟩)] #[]) := q 6
 have c7 : w.cell? ⟨t, 7, none⟩ = some (.int .i64 0) := by rw [q 7]; simp [EV.cs, hs]
 clear q fq ho hf
 go_enter Tryz.func250, Tryz.ntmps250
 go_wp2_with fail
 refine hd.mono ?_
 rintro e w1 ⟨rfl, hP⟩
 have hP2 := hP.statusE hA hF s hb
 obtain ⟨fv1, ho1⟩ := hP.cellsE
 obtain ⟨fv2, ho2⟩ := hP2.cellsE
 obtain ⟨q1, fq1, lq1⟩ := obj_cells ho1
 obtain ⟨q2, fq2, lq2⟩ := obj_cells ho2
 have d7 : w1.cell? ⟨t, 7, none⟩ = some (.int .i64 y.st) := q1 7
 have f7 : w1.frozen? ⟨t, 7, none⟩ = false := fq1 7
 have g1 : (w1.setCell ⟨t, 7, none⟩ (.int .i64 s)).cell? ⟨t, 1, none⟩ = some (.bool y.push) := q2 1
 have g2 : (w1.setCell ⟨t, 7, none⟩ (.int .i64 s)).cell? ⟨t, 2, none⟩ = some (.int .u32 y.i) := q2 2
 have g7 : (w1.setCell ⟨t, 7, none⟩ (.int .i64 s)).cell? ⟨t, 7, none⟩ = some (.int .i64 s) := q2 7
 have HP := Lib.hid hP2
 clear q1 q2 fq1 fq2 ho1 ho2 c6 c7 hP hP2 hd
 by_cases h1 : s = 1
 ·have t1 : (s != 1) = false := by rw [h1]; rfl
  cases hp : y.push with
  | false =>
   have e2 : EV.told { y with st := s } = y.i := by unfold EV.told; rw [if_pos ⟨h1, hp⟩]
   have HE := Lib.hid e2
   rw [hp] at g1
   clear e2 h1 hp
   go_wp2_with fail
   go_region_held3 (fun w' => w'.cell? ⟨t, 2, none⟩ = some (.int .u32 y.i) ∧ w'.cell? ⟨t, 7, none⟩ = some (.int .i64 s)) (exact ⟨g2, g7⟩) (fail)
   go_wp2
   go_ret2
   refine ⟨?_, HP.out.drewE⟩
   rw [HE.out]
   rfl
  | true =>
   have e2 : EV.told { y with st := s } = 0 := by unfold EV.told; rw [if_neg (by rw [hp]; simp)]
   have HE := Lib.hid e2
   rw [hp] at g1
   clear e2 h1 hp
   go_wp2_with fail
   go_ret2
   refine ⟨?_, HP.out⟩
   rw [HE.out]
   rfl
 ·have t1 : (s != 1) = true := by rw [bne_iff_ne]; exact h1
  have e2 : EV.told { y with st := s } = 0 := by unfold EV.told; rw [if_neg (fun h => h1 h.1)]
  have HE := Lib.hid e2
  clear e2 h1
  go_wp2_with fail
  go_ret2
  refine ⟨?_, HP.out⟩
  rw [HE.out]
  rfl
theorem exch_step_found (w : World) (b : MB) (σ : MemS) (hb : MemAt w b σ) (hfn : σ.notes.length < 1000000000) (F : Nat → Prop) (hA : Apart w b F) (t : Nat) (x : EV) (hx : EVAt w F t x) (z : Int) (hn : x.nx = .found z) (hs : x.st = 0) (now : Int) :
  Calls Tryz.prog 250 #[.pointer (some ⟨t, 0, none⟩), .pointer (some ⟨b.m, 0, none⟩), .int .u64 now] w (VisitPost w b F t (x.step σ now).1 (x.step σ now).2) := by
 have hF := hx.own
 obtain ⟨fv, ho, hf⟩ := hx.obj
 rw [hn] at hf
 obtain ⟨bt, bn, hF1, hF2, hf', hbt, hbn⟩ := hf
 have hd := exch_met w b σ hb hfn F hA t x hx z hn now bt bn hF2 hbt hbn
 subst hf'
 clear hbt hbn
 have e : x.step σ now = ({ (x.next σ now).1 with st := (x.next σ now).2.2 }, (x.next σ now).2.1) := by unfold EV.step; rw [if_pos hs]
 rw [e]
 clear e
 generalize x.next σ now = r at *
 obtain ⟨y, σ', s⟩ := r
 simp only at hd ⊢
 obtain ⟨q, fq, lq⟩ := obj_cells ho
 have c6 : w.cell? ⟨t, 6, none⟩ = some (.func (.func 281) #[] #[.pointer (some ⟨bt, 0, none⟩), .pointer (some ⟨bn, 0, none⟩)]) := q 6
 have c7 : w.cell? ⟨t, 7, none⟩ = some (.int .i64 0) := by rw [q 7]; simp [EV.cs, hs]
 clear q fq ho
 go_enter Tryz.func250, Tryz.ntmps250
 go_wp2_with fail
 refine hd.mono ?_
 rintro e w1 ⟨rfl, hP⟩
 have hP2 := hP.statusE hA hF s hb
 obtain ⟨fv1, ho1⟩ := hP.cellsE
 obtain ⟨fv2, ho2⟩ := hP2.cellsE
 obtain ⟨q1, fq1, lq1⟩ := obj_cells ho1
 obtain ⟨q2, fq2, lq2⟩ := obj_cells ho2
 have d7 : w1.cell? ⟨t, 7, none⟩ = some (.int .i64 y.st) := q1 7
 have f7 : w1.frozen? ⟨t, 7, none⟩ = false := fq1 7
 have g1 : (w1.setCell ⟨t, 7, none⟩ (.int .i64 s)).cell? ⟨t, 1, none⟩ = some (.bool y.push) := q2 1
 have g2 : (w1.setCell ⟨t, 7, none⟩ (.int .i64 s)).cell? ⟨t, 2, none⟩ = some (.int .u32 y.i) := q2 2
 have g7 : (w1.setCell ⟨t, 7, none⟩ (.int .i64 s)).cell? ⟨t, 7, none⟩ = some (.int .i64 s) := q2 7
 have HP := Lib.hid hP2
 clear q1 q2 fq1 fq2 ho1 ho2 c6 c7 hP hP2 hd
 by_cases h1 : s = 1
 ·have t1 : (s != 1) = false := by rw [h1]; rfl
  cases hp : y.push with
  | false =>
   have e2 : EV.told { y with st := s } = y.i := by unfold EV.told; rw [if_pos ⟨h1, hp⟩]
   have HE := Lib.hid e2
   rw [hp] at g1
   clear e2 h1 hp
   go_wp2_with fail
   go_region_held3 (fun w' => w'.cell? ⟨t, 2, none⟩ = some (.int .u32 y.i) ∧ w'.cell? ⟨t, 7, none⟩ = some (.int .i64 s)) (exact ⟨g2, g7⟩) (fail)
   go_wp2
   go_ret2
   refine ⟨?_, HP.out.drewE⟩
   rw [HE.out]
   rfl
  | true =>
   have e2 : EV.told { y with st := s } = 0 := by unfold EV.told; rw [if_neg (by rw [hp]; simp)]
   have HE := Lib.hid e2
   rw [hp] at g1
   clear e2 h1 hp
   go_wp2_with fail
   go_ret2
   refine ⟨?_, HP.out⟩
   rw [HE.out]
   rfl
 ·have t1 : (s != 1) = true := by rw [bne_iff_ne]; exact h1
  have e2 : EV.told { y with st := s } = 0 := by unfold EV.told; rw [if_neg (fun h => h1 h.1)]
  have HE := Lib.hid e2
  clear e2 h1
  go_wp2_with fail
  go_ret2
  refine ⟨?_, HP.out⟩
  rw [HE.out]
  rfl
theorem exch_step_idle (w : World) (b : MB) (σ : MemS) (hb : MemAt w b σ) (F : Nat → Prop) (hA : Apart w b F) (t : Nat) (x : EV) (hx : EVAt w F t x) (hs : x.st ≠ 0) (now : Int) :
  Calls Tryz.prog 250 #[.pointer (some ⟨t, 0, none⟩), .pointer (some ⟨b.m, 0, none⟩), .int .u64 now] w (VisitPost w b F t (x.step σ now).1 (x.step σ now).2) := by
 have e : x.step σ now = (x, σ) := by unfold EV.step; rw [if_neg hs]
 rw [e]
 clear e
 obtain ⟨fv, ho, hf⟩ := hx.obj
 obtain ⟨q, fq, lq⟩ := obj_cells ho
 have g1 : w.cell? ⟨t, 1, none⟩ = some (.bool x.push) := q 1
 have g2 : w.cell? ⟨t, 2, none⟩ = some (.int .u32 x.i) := q 2
 have g7 : w.cell? ⟨t, 7, none⟩ = some (.int .i64 x.st) := q 7
 have t0 : (x.st == 0) = false := beq_eq_false_iff_ne.2 hs
 have HP : Hid (Post F w b σ w (fun W F' => EVAt W F' t x)) := Post.mk0 hb hA (Kp.refl _ _) (fun F' h1 h2 => hx.kept (fun _ _ _ h => h) h1)
 clear q fq ho hf hs
 go_enter Tryz.func250, Tryz.ntmps250
 by_cases h1 : x.st = 1
 ·have t1 : (x.st != 1) = false := by rw [h1]; rfl
  cases hp : x.push with
  | false =>
   have e2 : EV.told x = x.i := by unfold EV.told; rw [if_pos ⟨h1, hp⟩]
   have HE := Lib.hid e2
   rw [hp] at g1
   clear e2 h1 hp
   go_wp2_with fail
   go_region_held3 (fun w' => w'.cell? ⟨t, 2, none⟩ = some (.int .u32 x.i) ∧ w'.cell? ⟨t, 7, none⟩ = some (.int .i64 x.st)) (exact ⟨g2, g7⟩) (fail)
   go_wp2
   go_ret2
   refine ⟨?_, HP.out.drewE⟩
   rw [HE.out]
   rfl
  | true =>
   have e2 : EV.told x = 0 := by unfold EV.told; rw [if_neg (by rw [hp]; simp)]
   have HE := Lib.hid e2
   rw [hp] at g1
   clear e2 h1 hp
   go_wp2_with fail
   go_ret2
   refine ⟨?_, HP.out⟩
   rw [HE.out]
   rfl
 ·have t1 : (x.st != 1) = true := by rw [bne_iff_ne]; exact h1
  have e2 : EV.told x = 0 := by unfold EV.told; rw [if_neg (fun h => h1 h.1)]
  have HE := Lib.hid e2
  clear e2 h1
  go_wp2_with fail
  go_ret2
  refine ⟨?_, HP.out⟩
  rw [HE.out]
  rfl
theorem exch_step (w : World) (b : MB) (σ : MemS) (hb : MemAt w b σ) (hfn : σ.notes.length < 1000000000) (F : Nat → Prop) (hA : Apart w b F) (t : Nat) (x : EV) (hx : EVAt w F t x) (now : Int) :
  Calls Tryz.prog 250 #[.pointer (some ⟨t, 0, none⟩), .pointer (some ⟨b.m, 0, none⟩), .int .u64 now] w (VisitPost w b F t (x.step σ now).1 (x.step σ now).2) := by
 by_cases hs : x.st = 0
 ·cases hn : x.nx with
  | first => exact exch_step_first w b σ hb hfn F hA t x hx hn hs now
  | claim => exact exch_step_claim w b σ hb hfn F hA t x hx hn hs now
  | offer => exact exch_step_offer w b σ hb hfn F hA t x hx hn hs now
  | look => exact exch_step_look w b σ hb hfn F hA t x hx hn hs now
  | withdraw => exact exch_step_withdraw w b σ hb hfn F hA t x hx hn hs now
  | found z => exact exch_step_found w b σ hb hfn F hA t x hx z hn hs now
 ·exact exch_step_idle w b σ hb F hA t x hx hs now
end Go.Proofs.YtgdoeoackhfikaaGreatDoor

-- Written by this session's own program wip/tool/myprint.py over the kit's printer; not trusted: Lean checks it.
import Derived.Test.YtcldjdngfmakbaaDoorG0
import Derived.Test.YtcldjdngfmakbaaDoorGlyphParse
import Derived.Test.YtcldjdngfmakbaaDoorGlyphShown
import Derived.Test.YtcldjdngfmakbaaDoorGround
namespace Go.Proofs.YtcldjdngfmakbaaDoor.G
open Go.RowKit Go.Proofs.YtcldjdngfmakbaaDoorW.PrintWords Go.Proofs.YtcldjdngfmakbaaDoorW.PrintLast Go.Proofs.YtcldjdngfmakbaaDoorW.PrintMore
attribute [local go_sem] max2_int min2_int max_two min_two max_three min_three max_four min_four   -- for this text's walks alone
set_option linter.unusedVariables false
set_option linter.unusedSimpArgs false

open Go.Proofs.YtcldjdngfmakbaaDoor
/-! ### hatstandlaw3_GlyphSpoils: function 4 -/
mutual
def hatstandlaw3_GlyphSpoils.j0 : Nat → ByteArray → Bool → Bool → Option (Bool)
  | 0, _, _, _ => none
  | k + 1, x0, x3, x15 => if x15 = true then (some x3) else ((glyph_Parse.f x0).bind fun t162 => (hatstandlaw3_GlyphSpoils.l0 k x0 t162 0))
def hatstandlaw3_GlyphSpoils.l0 : Nat → ByteArray → List (S33) → Int → Option (Bool)
  | 0, _, _, _ => none
  | k + 1, x0, x4, x5 => if x5 < (x4.length : Int) then (if 0 ≤ x5 then (if ((rd_T33 x4 x5).f3) < 0 then (hatstandlaw3_GlyphSpoils.j2 k x0 x4 x5 true) else (if ((rd_T33 x4 x5).f3) ≥ (x0.size : Int) then (hatstandlaw3_GlyphSpoils.j2 k x0 x4 x5 true) else (if x5 > 0 then (if 0 ≤ (wrap64 (x5 - 1)) then (if (wrap64 (x5 - 1)) < (x4.length : Int) then (if ((rd_T33 x4 x5).f3) ≤ ((rd_T33 x4 (wrap64 (x5 - 1))).f3) then (hatstandlaw3_GlyphSpoils.j2 k x0 x4 x5 true) else (if ((rd_T33 x4 x5).f2 = true) then (hatstandlaw3_GlyphSpoils.j2 k x0 x4 x5 false) else (hatstandlaw3_GlyphSpoils.j2 k x0 x4 x5 ((((rd_T33 x4 x5).f1).length : Int) != 0)))) else (none)) else (none)) else (if ((rd_T33 x4 x5).f2 = true) then (hatstandlaw3_GlyphSpoils.j2 k x0 x4 x5 false) else (hatstandlaw3_GlyphSpoils.j2 k x0 x4 x5 ((((rd_T33 x4 x5).f1).length : Int) != 0)))))) else (none)) else (some true)
def hatstandlaw3_GlyphSpoils.j2 : Nat → ByteArray → List (S33) → Int → Bool → Option (Bool)
  | 0, _, _, _, _ => none
  | k + 1, x0, x4, x5, x75 => if x75 = true then (some false) else (if (wrap64 (x5 + 1)) < (x4.length : Int) then (if 0 ≤ (wrap64 (x5 + 1)) then (hatstandlaw3_GlyphSpoils.j3 k x0 x4 x5 ((rd_T33 x4 (wrap64 (x5 + 1))).f3)) else (none)) else (hatstandlaw3_GlyphSpoils.j3 k x0 x4 x5 (x0.size : Int)))
def hatstandlaw3_GlyphSpoils.j3 : Nat → ByteArray → List (S33) → Int → Int → Option (Bool)
  | 0, _, _, _, _ => none
  | k + 1, x0, x4, x5, x6 => if 0 ≤ x5 then (if x5 < (x4.length : Int) then (if 0 ≤ ((rd_T33 x4 x5).f3) then (if ((rd_T33 x4 x5).f3) ≤ x6 then (if x6 ≤ (x0.size : Int) then ((glyph_Parse.f (x0.extract (((rd_T33 x4 x5).f3) : Int).toNat (x6 : Int).toNat)).bind fun t175 => (if (t175.length : Int) = 1 then (if 0 < (t175.length : Int) then (if ((rd_T33 t175 0).f0) = ((rd_T33 x4 x5).f0) then (if (((rd_T33 t175 0).f2) != ((rd_T33 x4 x5).f2)) = true then (hatstandlaw3_GlyphSpoils.j4 k x0 x4 x5 true) else (if ((rd_T33 t175 0).f3) = 0 then (hatstandlaw3_GlyphSpoils.j4 k x0 x4 x5 ((((rd_T33 t175 0).f1).length : Int) != (((rd_T33 x4 x5).f1).length : Int))) else (hatstandlaw3_GlyphSpoils.j4 k x0 x4 x5 true))) else (hatstandlaw3_GlyphSpoils.j4 k x0 x4 x5 true)) else (none)) else (hatstandlaw3_GlyphSpoils.j4 k x0 x4 x5 true))) else (none)) else (none)) else (none)) else (none)) else (none)
def hatstandlaw3_GlyphSpoils.j4 : Nat → ByteArray → List (S33) → Int → Bool → Option (Bool)
  | 0, _, _, _, _ => none
  | k + 1, x0, x4, x5, x145 => if x145 = true then (some false) else (hatstandlaw3_GlyphSpoils.l0 k x0 x4 (wrap64 (x5 + 1)))
end
def hatstandlaw3_GlyphSpoils.f (k : Nat) (a0 : ByteArray) : Option (Bool) := (hatstandlaw3_shown.f).bind fun t161 => (if t161 = true then (hatstandlaw3_GlyphSpoils.j0 k a0 t161 (decide ((a0.size : Int) > 1000))) else (hatstandlaw3_GlyphSpoils.j0 k a0 t161 true))
theorem hatstandlaw3_GlyphSpoils.mono_l : ∀ k, (∀ y0 y1 y2, LeO (hatstandlaw3_GlyphSpoils.j0 k y0 y1 y2) (hatstandlaw3_GlyphSpoils.j0 (k + 1) y0 y1 y2)) ∧ (∀ y0 y1 y2, LeO (hatstandlaw3_GlyphSpoils.l0 k y0 y1 y2) (hatstandlaw3_GlyphSpoils.l0 (k + 1) y0 y1 y2)) ∧ (∀ y0 y1 y2 y3, LeO (hatstandlaw3_GlyphSpoils.j2 k y0 y1 y2 y3) (hatstandlaw3_GlyphSpoils.j2 (k + 1) y0 y1 y2 y3)) ∧ (∀ y0 y1 y2 y3, LeO (hatstandlaw3_GlyphSpoils.j3 k y0 y1 y2 y3) (hatstandlaw3_GlyphSpoils.j3 (k + 1) y0 y1 y2 y3)) ∧ (∀ y0 y1 y2 y3, LeO (hatstandlaw3_GlyphSpoils.j4 k y0 y1 y2 y3) (hatstandlaw3_GlyphSpoils.j4 (k + 1) y0 y1 y2 y3))
  | 0 => ⟨fun _ _ _ r h => by simp [hatstandlaw3_GlyphSpoils.j0] at h, fun _ _ _ r h => by simp [hatstandlaw3_GlyphSpoils.l0] at h, fun _ _ _ _ r h => by simp [hatstandlaw3_GlyphSpoils.j2] at h, fun _ _ _ _ r h => by simp [hatstandlaw3_GlyphSpoils.j3] at h, fun _ _ _ _ r h => by simp [hatstandlaw3_GlyphSpoils.j4] at h⟩
  | k + 1 => by
    obtain ⟨ih0, ih1, ih2, ih3, ih4⟩ := hatstandlaw3_GlyphSpoils.mono_l k
    refine ⟨?_, ?_, ?_, ?_, ?_⟩
    · intro y0 y1 y2
      unfold hatstandlaw3_GlyphSpoils.j0
      repeat' first
      | (with_reducible exact ih0 _ _ _)
      | (with_reducible exact ih1 _ _ _)
      | (with_reducible exact ih2 _ _ _ _)
      | (with_reducible exact ih3 _ _ _ _)
      | (with_reducible exact ih4 _ _ _ _)
      | (with_reducible exact LeO.refl _)
      | (with_reducible exact LeO.none _)
      | (with_reducible refine LeO.ite ?_ ?_)
      | (with_reducible refine LeO.bind ?_ (fun _ => ?_))
      | exact ih0 _ _ _
      | exact ih1 _ _ _
      | exact ih2 _ _ _ _
      | exact ih3 _ _ _ _
      | exact ih4 _ _ _ _
      | exact LeO.none _
      | refine LeO.ite ?_ ?_
      | refine LeO.bind ?_ (fun _ => ?_)
    · intro y0 y1 y2
      unfold hatstandlaw3_GlyphSpoils.l0
      repeat' first
      | (with_reducible exact ih0 _ _ _)
      | (with_reducible exact ih1 _ _ _)
      | (with_reducible exact ih2 _ _ _ _)
      | (with_reducible exact ih3 _ _ _ _)
      | (with_reducible exact ih4 _ _ _ _)
      | (with_reducible exact LeO.refl _)
      | (with_reducible exact LeO.none _)
      | (with_reducible refine LeO.ite ?_ ?_)
      | (with_reducible refine LeO.bind ?_ (fun _ => ?_))
      | exact ih0 _ _ _
      | exact ih1 _ _ _
      | exact ih2 _ _ _ _
      | exact ih3 _ _ _ _
      | exact ih4 _ _ _ _
      | exact LeO.none _
      | refine LeO.ite ?_ ?_
      | refine LeO.bind ?_ (fun _ => ?_)
    · intro y0 y1 y2 y3
      unfold hatstandlaw3_GlyphSpoils.j2
      repeat' first
      | (with_reducible exact ih0 _ _ _)
      | (with_reducible exact ih1 _ _ _)
      | (with_reducible exact ih2 _ _ _ _)
      | (with_reducible exact ih3 _ _ _ _)
      | (with_reducible exact ih4 _ _ _ _)
      | (with_reducible exact LeO.refl _)
      | (with_reducible exact LeO.none _)
      | (with_reducible refine LeO.ite ?_ ?_)
      | (with_reducible refine LeO.bind ?_ (fun _ => ?_))
      | exact ih0 _ _ _
      | exact ih1 _ _ _
      | exact ih2 _ _ _ _
      | exact ih3 _ _ _ _
      | exact ih4 _ _ _ _
      | exact LeO.none _
      | refine LeO.ite ?_ ?_
      | refine LeO.bind ?_ (fun _ => ?_)
    · intro y0 y1 y2 y3
      unfold hatstandlaw3_GlyphSpoils.j3
      repeat' first
      | (with_reducible exact ih0 _ _ _)
      | (with_reducible exact ih1 _ _ _)
      | (with_reducible exact ih2 _ _ _ _)
      | (with_reducible exact ih3 _ _ _ _)
      | (with_reducible exact ih4 _ _ _ _)
      | (with_reducible exact LeO.refl _)
      | (with_reducible exact LeO.none _)
      | (with_reducible refine LeO.ite ?_ ?_)
      | (with_reducible refine LeO.bind ?_ (fun _ => ?_))
      | exact ih0 _ _ _
      | exact ih1 _ _ _
      | exact ih2 _ _ _ _
      | exact ih3 _ _ _ _
      | exact ih4 _ _ _ _
      | exact LeO.none _
      | refine LeO.ite ?_ ?_
      | refine LeO.bind ?_ (fun _ => ?_)
    · intro y0 y1 y2 y3
      unfold hatstandlaw3_GlyphSpoils.j4
      repeat' first
      | (with_reducible exact ih0 _ _ _)
      | (with_reducible exact ih1 _ _ _)
      | (with_reducible exact ih2 _ _ _ _)
      | (with_reducible exact ih3 _ _ _ _)
      | (with_reducible exact ih4 _ _ _ _)
      | (with_reducible exact LeO.refl _)
      | (with_reducible exact LeO.none _)
      | (with_reducible refine LeO.ite ?_ ?_)
      | (with_reducible refine LeO.bind ?_ (fun _ => ?_))
      | exact ih0 _ _ _
      | exact ih1 _ _ _
      | exact ih2 _ _ _ _
      | exact ih3 _ _ _ _
      | exact ih4 _ _ _ _
      | exact LeO.none _
      | refine LeO.ite ?_ ?_
      | refine LeO.bind ?_ (fun _ => ?_)
theorem hatstandlaw3_GlyphSpoils.mono : ∀ a0 k, LeO (hatstandlaw3_GlyphSpoils.f k a0) (hatstandlaw3_GlyphSpoils.f (k + 1) a0) := by
  intro a0 k
  obtain ⟨ih0, ih1, ih2, ih3, ih4⟩ := hatstandlaw3_GlyphSpoils.mono_l k
  unfold hatstandlaw3_GlyphSpoils.f
  repeat' first
      | (with_reducible exact ih0 _ _ _)
      | (with_reducible exact ih1 _ _ _)
      | (with_reducible exact ih2 _ _ _ _)
      | (with_reducible exact ih3 _ _ _ _)
      | (with_reducible exact ih4 _ _ _ _)
      | (with_reducible exact LeO.refl _)
      | (with_reducible exact LeO.none _)
      | (with_reducible refine LeO.ite ?_ ?_)
      | (with_reducible refine LeO.bind ?_ (fun _ => ?_))
      | exact ih0 _ _ _
      | exact ih1 _ _ _
      | exact ih2 _ _ _ _
      | exact ih3 _ _ _ _
      | exact ih4 _ _ _ _
      | exact LeO.none _
      | refine LeO.ite ?_ ?_
      | refine LeO.bind ?_ (fun _ => ?_)
set_option maxHeartbeats 8000000 in
set_option maxRecDepth 100000 in
theorem hatstandlaw3_GlyphSpoils.calls (k : Nat) (a0 : ByteArray) (r : Bool) (w : World) (hG : GG w) (h : hatstandlaw3_GlyphSpoils.f k a0 = some r) :
    Calls Tryd.prog 4 #[.string a0] w fun e w' => e = .returned (.bool r) ∧ Below w.heap.size w w' := by
  have HB := Aside0.mk (Below.refl w.heap.size w)
  have H : ((hatstandlaw3_shown.f).bind fun t161 => (if t161 = true then (hatstandlaw3_GlyphSpoils.j0 k a0 t161 (decide ((a0.size : Int) > 1000))) else (hatstandlaw3_GlyphSpoils.j0 k a0 t161 true))) = some r := h
  clear h
  replace H := Option.bind_eq_some_iff.mp H
  obtain ⟨t161, A20, H⟩ := H
  replace H : (if t161 = true then (hatstandlaw3_GlyphSpoils.j0 k a0 t161 (decide ((a0.size : Int) > 1000))) else (hatstandlaw3_GlyphSpoils.j0 k a0 t161 true)) = some r := H
  have A2 := Aside0.mk A20
  clear A20
  have HC3 := Aside0.mk H
  clear H
  go_enter Tryd.func4, Tryd.ntmps4
  go_upto_region 2 with (first | (go_at_call 10; (with_reducible refine (hatstandlaw3_shown.calls  t161 _ ?side1 A2.out).mono ?_); (case side1 => exact GG_at hG (by repeat (first | (with_reducible first | exact HB.out | apply below_alloc | apply pw_below_drewN | apply below_drew1) | exact HB.out))); rintro e w4 ⟨rfl, hb⟩; have n0_ := Aside0.mk (below_step (by repeat (first | (with_reducible first | exact HB.out | apply below_alloc | apply pw_below_drewN | apply below_drew1) | exact HB.out)) hb); clear HB; have HB := n0_; clear n0_; (try clear hb); (try clear hb2); (try clear hk); (try clear hi)))
  repeat (go_quiet (first | (go_at_call 10; (with_reducible refine (hatstandlaw3_shown.calls  t161 _ ?side1 A2.out).mono ?_); (case side1 => exact GG_at hG (by repeat (first | (with_reducible first | exact HB.out | apply below_alloc | apply pw_below_drewN | apply below_drew1) | exact HB.out))); rintro e w4 ⟨rfl, hb⟩; have n0_ := Aside0.mk (below_step (by repeat (first | (with_reducible first | exact HB.out | apply below_alloc | apply pw_below_drewN | apply below_drew1) | exact HB.out)) hb); clear HB; have HB := n0_; clear n0_; (try clear hb); (try clear hb2); (try clear hk); (try clear hi))); go_upto_region 2 with (first | (go_at_call 10; (with_reducible refine (hatstandlaw3_shown.calls  t161 _ ?side1 A2.out).mono ?_); (case side1 => exact GG_at hG (by repeat (first | (with_reducible first | exact HB.out | apply below_alloc | apply pw_below_drewN | apply below_drew1) | exact HB.out))); rintro e w4 ⟨rfl, hb⟩; have n0_ := Aside0.mk (below_step (by repeat (first | (with_reducible first | exact HB.out | apply below_alloc | apply pw_below_drewN | apply below_drew1) | exact HB.out)) hb); clear HB; have HB := n0_; clear n0_; (try clear hb); (try clear hb2); (try clear hk); (try clear hi))))
  (try simp only [Act.put, List.setIfInBounds_toArray, List.set_cons_zero, List.set_cons_succ])
  go_cut [15] (fun v15 wc => ∃ (kq : Nat) (x15_2 : Bool), v15 = .bool x15_2 ∧ Aside0 (hatstandlaw3_GlyphSpoils.j0 kq a0 t161 x15_2 = some r) ∧ Aside0 (kq ≤ k) ∧ Aside0 (Below w.heap.size w wc))
  case first => as_aux_lemma =>
    have H := HC3.out
    clear HC3
    by_cases c5 : t161 = true
    · subst c5
      have H1 : (hatstandlaw3_GlyphSpoils.j0 k a0 true (decide ((a0.size : Int) > 1000))) = some r := by rw [if_pos rfl] at H; exact H
      clear H
      have H := H1
      clear H1
      have H' := Aside0.mk H
      clear H
      go_wp2
      repeat (go_quiet (fail); try go_wp2)
      go_meet
      case rel => exact ⟨_, (decide ((a0.size : Int) > 1000)), (by first | rfl | (simp; done) | (simp [*]; done) | exact isEmpty_bne _), H', ⟨by first | omega | exact Nat.le_refl _⟩, ⟨by repeat (first | (with_reducible first | exact HB.out | apply below_alloc | apply pw_below_drewN | apply below_drew1) | exact HB.out)⟩⟩
    · replace c5 := Bool.eq_false_iff.mpr c5
      subst c5
      have H1 : (hatstandlaw3_GlyphSpoils.j0 k a0 false true) = some r := by rw [if_neg (show ¬ (false = true) by decide)] at H; exact H
      clear H
      have H := H1
      clear H1
      have H' := Aside0.mk H
      clear H
      go_wp2
      repeat (go_quiet (fail); try go_wp2)
      go_meet
      case rel => exact ⟨_, (true), (by first | rfl | (simp; done) | (simp [*]; done) | exact isEmpty_bne _), H', ⟨by first | omega | exact Nat.le_refl _⟩, ⟨by repeat (first | (with_reducible first | exact HB.out | apply below_alloc | apply pw_below_drewN | apply below_drew1) | exact HB.out)⟩⟩
  case rest => as_aux_lemma =>
    clear HC3
    try clear p2
    try clear c4
    try clear c5
    obtain ⟨kq, x15_2, rfl, HA, HJ2, HB⟩ := hcut
    cases kq with
    | zero => exact absurd HA.out (by simp [hatstandlaw3_GlyphSpoils.j0])
    | succ kj2 =>
      have H := HA.out
      clear HA
      simp only [hatstandlaw3_GlyphSpoils.j0] at H
      by_cases c6 : x15_2 = true
      · subst c6
        have H1 : (some t161) = some r := by rw [if_pos rfl] at H; exact H
        clear H
        have H := H1
        clear H1
        obtain rfl := Option.some.inj H
        go_wp2
        repeat (go_quiet (fail); try go_wp2)
        go_ret
        exact ⟨by first | rfl | (simp [errW_none, errW_some] <;> rfl) | (simp [*, errW_none, errW_some] <;> rfl), by repeat (first | (with_reducible first | exact HB.out | apply below_alloc | apply pw_below_drewN | apply below_drew1) | exact HB.out)⟩
      · replace c6 := Bool.eq_false_iff.mpr c6
        subst c6
        have H1 : ((glyph_Parse.f a0).bind fun t162 => (hatstandlaw3_GlyphSpoils.l0 kj2 a0 t162 0)) = some r := by rw [if_neg (show ¬ (false = true) by decide)] at H; exact H
        clear H
        have H := H1
        clear H1
        replace H := Option.bind_eq_some_iff.mp H
        obtain ⟨t162, A70, H⟩ := H
        replace H : (hatstandlaw3_GlyphSpoils.l0 kj2 a0 t162 0) = some r := H
        have A7 := Aside0.mk A70
        clear A70
        have H' := Aside0.mk H
        clear H
        go_wp2_with (first | (go_at_call 12; (with_reducible refine (glyph_Parse.calls a0 t162 _ ?side1 A7.out).mono ?_); (case side1 => exact GG_at hG (by repeat (first | (with_reducible first | exact HB.out | apply below_alloc | apply pw_below_drewN | apply below_drew1) | exact HB.out))); rintro e w8 ⟨v163, rfl, ho0, hb⟩; have n0_ := Aside0.mk (Kd.N_lower (Kd.N_mono (ok' := fun k_ => True) ho0 (fun k_ hk_ => trivial)) (below_size (by repeat (first | (with_reducible first | exact HB.out | apply below_alloc | apply pw_below_drewN | apply below_drew1) | exact HB.out)))); have n1_ := Aside0.mk (below_step (by repeat (first | (with_reducible first | exact HB.out | apply below_alloc | apply pw_below_drewN | apply below_drew1) | exact HB.out)) hb); clear HB; have HO164 := n0_; have HB := n1_; clear n0_ n1_; (try clear hb); (try clear hb2); (try clear hk); (try clear hi); (try clear ho0)))
        repeat (go_quiet (first | (go_at_call 12; (with_reducible refine (glyph_Parse.calls a0 t162 _ ?side1 A7.out).mono ?_); (case side1 => exact GG_at hG (by repeat (first | (with_reducible first | exact HB.out | apply below_alloc | apply pw_below_drewN | apply below_drew1) | exact HB.out))); rintro e w8 ⟨v163, rfl, ho0, hb⟩; have n0_ := Aside0.mk (Kd.N_lower (Kd.N_mono (ok' := fun k_ => True) ho0 (fun k_ hk_ => trivial)) (below_size (by repeat (first | (with_reducible first | exact HB.out | apply below_alloc | apply pw_below_drewN | apply below_drew1) | exact HB.out)))); have n1_ := Aside0.mk (below_step (by repeat (first | (with_reducible first | exact HB.out | apply below_alloc | apply pw_below_drewN | apply below_drew1) | exact HB.out)) hb); clear HB; have HO164 := n0_; have HB := n1_; clear n0_ n1_; (try clear hb); (try clear hb2); (try clear hk); (try clear hi); (try clear ho0))); try go_wp2_with (first | (go_at_call 12; (with_reducible refine (glyph_Parse.calls a0 t162 _ ?side1 A7.out).mono ?_); (case side1 => exact GG_at hG (by repeat (first | (with_reducible first | exact HB.out | apply below_alloc | apply pw_below_drewN | apply below_drew1) | exact HB.out))); rintro e w8 ⟨v163, rfl, ho0, hb⟩; have n0_ := Aside0.mk (Kd.N_lower (Kd.N_mono (ok' := fun k_ => True) ho0 (fun k_ hk_ => trivial)) (below_size (by repeat (first | (with_reducible first | exact HB.out | apply below_alloc | apply pw_below_drewN | apply below_drew1) | exact HB.out)))); have n1_ := Aside0.mk (below_step (by repeat (first | (with_reducible first | exact HB.out | apply below_alloc | apply pw_below_drewN | apply below_drew1) | exact HB.out)) hb); clear HB; have HO164 := n0_; have HB := n1_; clear n0_ n1_; (try clear hb); (try clear hb2); (try clear hk); (try clear hi); (try clear ho0))))
        go_loopg [5] kj2 (fun kq v5 w' => ∃ (x5_2 : Int), v5 = .int .i64 x5_2 ∧ Aside0 (hatstandlaw3_GlyphSpoils.l0 kq a0 t162 x5_2 = some r) ∧ Aside0 (kq ≤ kj2) ∧ Aside0 (Kd.N k33 33 w' w.heap.size (fun _ => True) v163 t162) ∧ Aside0 (Below w.heap.size w w'))
        case atStart => exact ⟨(0), (by first | rfl | (simp; done) | (simp [*]; done) | exact isEmpty_bne _), H', ⟨Nat.le_refl _⟩, ⟨by (with_reducible repeat (first | apply Kd.N_alloc | apply Kd.N_drewN | apply Kd.N_drew)); exact HO164.out⟩, ⟨by repeat (first | (with_reducible first | exact HB.out | apply below_alloc | apply pw_below_drewN | apply below_drew1) | exact HB.out)⟩⟩
        case round => as_aux_lemma =>
          clear H'
          try clear p2
          try clear c4
          try clear c5
          try clear c6
          try clear p2
          obtain ⟨x5_2, rfl, HA, HK2, HO_4, HB⟩ := hrel
          cases gk with
          | zero => exact absurd HA.out (by simp [hatstandlaw3_GlyphSpoils.l0])
          | succ k2 =>
            have H := HA.out
            clear HA
            simp only [hatstandlaw3_GlyphSpoils.l0] at H
            by_cases c9 : x5_2 < (t162.length : Int)
            · rw [if_pos c9] at H
              have c9b0 : decide (x5_2 < (t162.length : Int)) = true := decide_eq_true c9
              clear c9
              have HC10 := Aside0.mk H
              clear H
              obtain ⟨Ao11, co11, eo11⟩ := Kd.N_slice HO_4.out
              subst eo11
              go_upto_region 8 with (fail)
              repeat (go_quiet (fail); go_upto_region 8 with (fail))
              go_cut [75] (fun v75 wc => ∃ (kq : Nat) (x75_9 : Bool), v75 = .bool x75_9 ∧ Aside0 (hatstandlaw3_GlyphSpoils.j2 kq a0 t162 x5_2 x75_9 = some r) ∧ Aside0 (kq ≤ k2) ∧ Aside0 (Kd.N k33 33 wc w.heap.size (fun _ => True) (.slice Ao11 t162.length co11) t162) ∧ Aside0 (Below w.heap.size w wc))
              case first => as_aux_lemma =>
                have H := HC10.out
                clear HC10
                by_cases c12 : 0 ≤ x5_2
                · rw [if_pos c12] at H
                  have c12b0 : decide (0 ≤ x5_2) = true := decide_eq_true c12
                  clear c12
                  (first | rw [c12b0] | (simp only [i64_w, i32_w]; rw [c12b0]) | skip)
                  by_cases c13 : ((rd_T33 t162 x5_2).f3) < 0
                  · rw [if_pos c13] at H
                    have c13b0 : decide (((rd_T33 t162 x5_2).f3) < 0) = true := decide_eq_true c13
                    clear c13
                    have H' := Aside0.mk H
                    clear H
                    have p165 : 0 ≤ (x5_2 : Int) := of_decide_eq_true (by first | (with_reducible assumption) | assumption)
                    have q165 : x5_2 < (t162.length : Int) := of_decide_eq_true (by first | (with_reducible assumption) | assumption)
                    obtain ⟨ad165, A165_1, c165_1, e165, hx165_0, hx165_1, hx165_2, hx165_3, hl165_1, hi165_1⟩ := at_T33 (Kd.N_reads' HO_4.out).2.2 x5_2 p165 q165
                    cases e165
                    obtain ⟨ce165, hce165, hMe165, hcc165⟩ := Kd.N_get HO_4.out z33 x5_2 p165 (by first | exact q165 | exact of_decide_eq_true (by first | (with_reducible assumption) | assumption) | (have e_ := (Kd.N_reads' HO_4.out).1; omega))
                    obtain ⟨ua165_1, uc165_1, rfl, ul165_1, ge165_1⟩ := k33_openF hMe165
                    have hv165_1 := hcc165 1 _ rfl
                    rw [add_field _ _ 1 (by omega)] at hv165_1
                    replace hv165_1 := Option.some.inj (hv165_1.symm.trans hx165_1)
                    injection hv165_1 with hva_ hvn_ hvc_
                    rw [hva_] at ge165_1
                    rw [hvc_] at ul165_1
                    have HL165_1 := Aside0.mk (show Kd.V (Kd.int .u64) 51 _ w.heap.size _ _ ((rd_T33 t162 x5_2).f1) from Kd.V_mk ul165_1 ge165_1)
                    clear hva_ hvn_ hvc_ ge165_1 ul165_1
                    clear hcc165 hce165
                    have HR165_1 := Aside0.mk hi165_1
                    have HC165_1 := Aside0.mk hl165_1
                    clear hi165_1 hl165_1
                    replace p165 := eq_true p165
                    replace q165 := eq_true q165
                    go_wp2
                    repeat (go_quiet (fail); try go_wp2)
                    go_meet
                    case rel => exact ⟨_, (true), (by first | rfl | (simp; done) | (simp [*]; done) | exact isEmpty_bne _), H', ⟨by have := HJ2.out; have := HK2.out; first | omega | exact Nat.le_refl _⟩, ⟨by (with_reducible repeat (first | apply Kd.N_alloc | apply Kd.N_drewN | apply Kd.N_drew)); exact HO_4.out⟩, ⟨by repeat (first | (with_reducible first | exact HB.out | apply below_alloc | apply pw_below_drewN | apply below_drew1) | exact HB.out)⟩⟩
                  · rw [if_neg c13] at H
                    have c13b0 : decide (((rd_T33 t162 x5_2).f3) < 0) = false := decide_eq_false c13
                    clear c13
                    by_cases c14 : ((rd_T33 t162 x5_2).f3) ≥ (a0.size : Int)
                    · rw [if_pos c14] at H
                      have c14b0 : decide ((a0.size : Int) ≤ ((rd_T33 t162 x5_2).f3)) = true := decide_eq_true c14
                      clear c14
                      have H' := Aside0.mk H
                      clear H
                      have p165 : 0 ≤ (x5_2 : Int) := of_decide_eq_true (by first | (with_reducible assumption) | assumption)
                      have q165 : x5_2 < (t162.length : Int) := of_decide_eq_true (by first | (with_reducible assumption) | assumption)
                      obtain ⟨ad165, A165_1, c165_1, e165, hx165_0, hx165_1, hx165_2, hx165_3, hl165_1, hi165_1⟩ := at_T33 (Kd.N_reads' HO_4.out).2.2 x5_2 p165 q165
                      cases e165
                      obtain ⟨ce165, hce165, hMe165, hcc165⟩ := Kd.N_get HO_4.out z33 x5_2 p165 (by first | exact q165 | exact of_decide_eq_true (by first | (with_reducible assumption) | assumption) | (have e_ := (Kd.N_reads' HO_4.out).1; omega))
                      obtain ⟨ua165_1, uc165_1, rfl, ul165_1, ge165_1⟩ := k33_openF hMe165
                      have hv165_1 := hcc165 1 _ rfl
                      rw [add_field _ _ 1 (by omega)] at hv165_1
                      replace hv165_1 := Option.some.inj (hv165_1.symm.trans hx165_1)
                      injection hv165_1 with hva_ hvn_ hvc_
                      rw [hva_] at ge165_1
                      rw [hvc_] at ul165_1
                      have HL165_1 := Aside0.mk (show Kd.V (Kd.int .u64) 51 _ w.heap.size _ _ ((rd_T33 t162 x5_2).f1) from Kd.V_mk ul165_1 ge165_1)
                      clear hva_ hvn_ hvc_ ge165_1 ul165_1
                      clear hcc165 hce165
                      have HR165_1 := Aside0.mk hi165_1
                      have HC165_1 := Aside0.mk hl165_1
                      clear hi165_1 hl165_1
                      replace p165 := eq_true p165
                      replace q165 := eq_true q165
                      have p166 : 0 ≤ (x5_2 : Int) := of_decide_eq_true (by first | (with_reducible assumption) | assumption)
                      have q166 : x5_2 < (t162.length : Int) := of_decide_eq_true (by first | (with_reducible assumption) | assumption)
                      obtain ⟨ad166, A166_1, c166_1, e166, hx166_0, hx166_1, hx166_2, hx166_3, hl166_1, hi166_1⟩ := at_T33 (Kd.N_reads' HO_4.out).2.2 x5_2 p166 q166
                      obtain rfl : ad165 = ad166 := (by injection e166)
                      obtain ⟨ce166, hce166, hMe166, hcc166⟩ := Kd.N_get HO_4.out z33 x5_2 p166 (by first | exact q166 | exact of_decide_eq_true (by first | (with_reducible assumption) | assumption) | (have e_ := (Kd.N_reads' HO_4.out).1; omega))
                      obtain ⟨ua166_1, uc166_1, rfl, ul166_1, ge166_1⟩ := k33_openF hMe166
                      have hv166_1 := hcc166 1 _ rfl
                      rw [add_field _ _ 1 (by omega)] at hv166_1
                      replace hv166_1 := Option.some.inj (hv166_1.symm.trans hx166_1)
                      injection hv166_1 with hva_ hvn_ hvc_
                      rw [hva_] at ge166_1
                      rw [hvc_] at ul166_1
                      have HL166_1 := Aside0.mk (show Kd.V (Kd.int .u64) 51 _ w.heap.size _ _ ((rd_T33 t162 x5_2).f1) from Kd.V_mk ul166_1 ge166_1)
                      clear hva_ hvn_ hvc_ ge166_1 ul166_1
                      clear hcc166 hce166
                      have HR166_1 := Aside0.mk hi166_1
                      have HC166_1 := Aside0.mk hl166_1
                      clear hi166_1 hl166_1
                      replace p166 := eq_true p166
                      replace q166 := eq_true q166
                      have ea_ := Option.some.inj (hx165_1.symm.trans hx166_1)
                      injection ea_ with ea_ en_ ec_
                      subst ea_
                      subst ec_
                      clear en_
                      go_wp2
                      repeat (go_quiet (fail); try go_wp2)
                      go_meet
                      case rel => exact ⟨_, (true), (by first | rfl | (simp; done) | (simp [*]; done) | exact isEmpty_bne _), H', ⟨by have := HJ2.out; have := HK2.out; first | omega | exact Nat.le_refl _⟩, ⟨by (with_reducible repeat (first | apply Kd.N_alloc | apply Kd.N_drewN | apply Kd.N_drew)); exact HO_4.out⟩, ⟨by repeat (first | (with_reducible first | exact HB.out | apply below_alloc | apply pw_below_drewN | apply below_drew1) | exact HB.out)⟩⟩
                    · rw [if_neg c14] at H
                      have c14b0 : decide ((a0.size : Int) ≤ ((rd_T33 t162 x5_2).f3)) = false := decide_eq_false c14
                      clear c14
                      by_cases c15 : x5_2 > 0
                      · rw [if_pos c15] at H
                        have c15b0 : decide (0 < x5_2) = true := decide_eq_true c15
                        clear c15
                        obtain ⟨ji16, hji16⟩ : ∃ j_ : Int, (wrap64 (x5_2 - 1)) = j_ := ⟨_, rfl⟩
                        replace H : (if 0 ≤ (ji16) then (if (ji16) < (t162.length : Int) then (if ((rd_T33 t162 x5_2).f3) ≤ ((rd_T33 t162 (ji16)).f3) then (hatstandlaw3_GlyphSpoils.j2 k2 a0 t162 x5_2 true) else (if ((rd_T33 t162 x5_2).f2 = true) then (hatstandlaw3_GlyphSpoils.j2 k2 a0 t162 x5_2 false) else (hatstandlaw3_GlyphSpoils.j2 k2 a0 t162 x5_2 ((((rd_T33 t162 x5_2).f1).length : Int) != 0)))) else (none)) else (none)) = some r := by first | (rw [hji16] at H; exact H) | (simp only [hji16] at H ⊢; exact H)
                        have hji16w : (IntKind.i64.wrap (x5_2 - 1)) = ji16 := (i64_w _).trans hji16
                        by_cases c17 : 0 ≤ (ji16)
                        · rw [if_pos c17] at H
                          have c17b0 : decide (0 ≤ (ji16)) = true := decide_eq_true c17
                          clear c17
                          by_cases c18 : (ji16) < (t162.length : Int)
                          · rw [if_pos c18] at H
                            have c18b0 : decide ((ji16) < (t162.length : Int)) = true := decide_eq_true c18
                            clear c18
                            by_cases c19 : ((rd_T33 t162 x5_2).f3) ≤ ((rd_T33 t162 (ji16)).f3)
                            · rw [if_pos c19] at H
                              have c19b0 : decide (((rd_T33 t162 x5_2).f3) ≤ ((rd_T33 t162 (ji16)).f3)) = true := decide_eq_true c19
                              clear c19
                              have H' := Aside0.mk H
                              clear H
                              have p165 : 0 ≤ (x5_2 : Int) := of_decide_eq_true (by first | (with_reducible assumption) | assumption)
                              have q165 : x5_2 < (t162.length : Int) := of_decide_eq_true (by first | (with_reducible assumption) | assumption)
                              obtain ⟨ad165, A165_1, c165_1, e165, hx165_0, hx165_1, hx165_2, hx165_3, hl165_1, hi165_1⟩ := at_T33 (Kd.N_reads' HO_4.out).2.2 x5_2 p165 q165
                              cases e165
                              obtain ⟨ce165, hce165, hMe165, hcc165⟩ := Kd.N_get HO_4.out z33 x5_2 p165 (by first | exact q165 | exact of_decide_eq_true (by first | (with_reducible assumption) | assumption) | (have e_ := (Kd.N_reads' HO_4.out).1; omega))
                              obtain ⟨ua165_1, uc165_1, rfl, ul165_1, ge165_1⟩ := k33_openF hMe165
                              have hv165_1 := hcc165 1 _ rfl
                              rw [add_field _ _ 1 (by omega)] at hv165_1
                              replace hv165_1 := Option.some.inj (hv165_1.symm.trans hx165_1)
                              injection hv165_1 with hva_ hvn_ hvc_
                              rw [hva_] at ge165_1
                              rw [hvc_] at ul165_1
                              have HL165_1 := Aside0.mk (show Kd.V (Kd.int .u64) 51 _ w.heap.size _ _ ((rd_T33 t162 x5_2).f1) from Kd.V_mk ul165_1 ge165_1)
                              clear hva_ hvn_ hvc_ ge165_1 ul165_1
                              clear hcc165 hce165
                              have HR165_1 := Aside0.mk hi165_1
                              have HC165_1 := Aside0.mk hl165_1
                              clear hi165_1 hl165_1
                              replace p165 := eq_true p165
                              replace q165 := eq_true q165
                              have p166 : 0 ≤ (x5_2 : Int) := of_decide_eq_true (by first | (with_reducible assumption) | assumption)
                              have q166 : x5_2 < (t162.length : Int) := of_decide_eq_true (by first | (with_reducible assumption) | assumption)
                              obtain ⟨ad166, A166_1, c166_1, e166, hx166_0, hx166_1, hx166_2, hx166_3, hl166_1, hi166_1⟩ := at_T33 (Kd.N_reads' HO_4.out).2.2 x5_2 p166 q166
                              obtain rfl : ad165 = ad166 := (by injection e166)
                              obtain ⟨ce166, hce166, hMe166, hcc166⟩ := Kd.N_get HO_4.out z33 x5_2 p166 (by first | exact q166 | exact of_decide_eq_true (by first | (with_reducible assumption) | assumption) | (have e_ := (Kd.N_reads' HO_4.out).1; omega))
                              obtain ⟨ua166_1, uc166_1, rfl, ul166_1, ge166_1⟩ := k33_openF hMe166
                              have hv166_1 := hcc166 1 _ rfl
                              rw [add_field _ _ 1 (by omega)] at hv166_1
                              replace hv166_1 := Option.some.inj (hv166_1.symm.trans hx166_1)
                              injection hv166_1 with hva_ hvn_ hvc_
                              rw [hva_] at ge166_1
                              rw [hvc_] at ul166_1
                              have HL166_1 := Aside0.mk (show Kd.V (Kd.int .u64) 51 _ w.heap.size _ _ ((rd_T33 t162 x5_2).f1) from Kd.V_mk ul166_1 ge166_1)
                              clear hva_ hvn_ hvc_ ge166_1 ul166_1
                              clear hcc166 hce166
                              have HR166_1 := Aside0.mk hi166_1
                              have HC166_1 := Aside0.mk hl166_1
                              clear hi166_1 hl166_1
                              replace p166 := eq_true p166
                              replace q166 := eq_true q166
                              have ea_ := Option.some.inj (hx165_1.symm.trans hx166_1)
                              injection ea_ with ea_ en_ ec_
                              subst ea_
                              subst ec_
                              clear en_
                              have p167 : 0 ≤ (x5_2 : Int) := of_decide_eq_true (by first | (with_reducible assumption) | assumption)
                              have q167 : x5_2 < (t162.length : Int) := of_decide_eq_true (by first | (with_reducible assumption) | assumption)
                              obtain ⟨ad167, A167_1, c167_1, e167, hx167_0, hx167_1, hx167_2, hx167_3, hl167_1, hi167_1⟩ := at_T33 (Kd.N_reads' HO_4.out).2.2 x5_2 p167 q167
                              obtain rfl : ad165 = ad167 := (by injection e167)
                              obtain ⟨ce167, hce167, hMe167, hcc167⟩ := Kd.N_get HO_4.out z33 x5_2 p167 (by first | exact q167 | exact of_decide_eq_true (by first | (with_reducible assumption) | assumption) | (have e_ := (Kd.N_reads' HO_4.out).1; omega))
                              obtain ⟨ua167_1, uc167_1, rfl, ul167_1, ge167_1⟩ := k33_openF hMe167
                              have hv167_1 := hcc167 1 _ rfl
                              rw [add_field _ _ 1 (by omega)] at hv167_1
                              replace hv167_1 := Option.some.inj (hv167_1.symm.trans hx167_1)
                              injection hv167_1 with hva_ hvn_ hvc_
                              rw [hva_] at ge167_1
                              rw [hvc_] at ul167_1
                              have HL167_1 := Aside0.mk (show Kd.V (Kd.int .u64) 51 _ w.heap.size _ _ ((rd_T33 t162 x5_2).f1) from Kd.V_mk ul167_1 ge167_1)
                              clear hva_ hvn_ hvc_ ge167_1 ul167_1
                              clear hcc167 hce167
                              have HR167_1 := Aside0.mk hi167_1
                              have HC167_1 := Aside0.mk hl167_1
                              clear hi167_1 hl167_1
                              replace p167 := eq_true p167
                              replace q167 := eq_true q167
                              have ea_ := Option.some.inj (hx165_1.symm.trans hx167_1)
                              injection ea_ with ea_ en_ ec_
                              subst ea_
                              subst ec_
                              clear en_
                              have p168 : 0 ≤ ((ji16) : Int) := of_decide_eq_true (by first | (with_reducible assumption) | assumption)
                              have q168 : (ji16) < (t162.length : Int) := of_decide_eq_true (by first | (with_reducible assumption) | assumption)
                              obtain ⟨ad168, A168_1, c168_1, e168, hx168_0, hx168_1, hx168_2, hx168_3, hl168_1, hi168_1⟩ := at_T33 (Kd.N_reads' HO_4.out).2.2 (ji16) p168 q168
                              obtain rfl : ad165 = ad168 := (by injection e168)
                              obtain ⟨ce168, hce168, hMe168, hcc168⟩ := Kd.N_get HO_4.out z33 (ji16) p168 (by first | exact q168 | exact of_decide_eq_true (by first | (with_reducible assumption) | assumption) | (have e_ := (Kd.N_reads' HO_4.out).1; omega))
                              obtain ⟨ua168_1, uc168_1, rfl, ul168_1, ge168_1⟩ := k33_openF hMe168
                              have hv168_1 := hcc168 1 _ rfl
                              rw [add_field _ _ 1 (by omega)] at hv168_1
                              replace hv168_1 := Option.some.inj (hv168_1.symm.trans hx168_1)
                              injection hv168_1 with hva_ hvn_ hvc_
                              rw [hva_] at ge168_1
                              rw [hvc_] at ul168_1
                              have HL168_1 := Aside0.mk (show Kd.V (Kd.int .u64) 51 _ w.heap.size _ _ ((rd_T33 t162 (ji16)).f1) from Kd.V_mk ul168_1 ge168_1)
                              clear hva_ hvn_ hvc_ ge168_1 ul168_1
                              clear hcc168 hce168
                              have HR168_1 := Aside0.mk hi168_1
                              have HC168_1 := Aside0.mk hl168_1
                              clear hi168_1 hl168_1
                              replace p168 := eq_true p168
                              replace q168 := eq_true q168
                              go_wp2
                              repeat (go_quiet (fail); try go_wp2)
                              go_meet
                              case rel => exact ⟨_, (true), (by first | rfl | (simp; done) | (simp [*]; done) | exact isEmpty_bne _), H', ⟨by have := HJ2.out; have := HK2.out; first | omega | exact Nat.le_refl _⟩, ⟨by (with_reducible repeat (first | apply Kd.N_alloc | apply Kd.N_drewN | apply Kd.N_drew)); exact HO_4.out⟩, ⟨by repeat (first | (with_reducible first | exact HB.out | apply below_alloc | apply pw_below_drewN | apply below_drew1) | exact HB.out)⟩⟩
                            · rw [if_neg c19] at H
                              have c19b0 : decide (((rd_T33 t162 x5_2).f3) ≤ ((rd_T33 t162 (ji16)).f3)) = false := decide_eq_false c19
                              clear c19
                              obtain ⟨bq20, hbq20⟩ : ∃ b_ : Bool, b_ = ((rd_T33 t162 x5_2).f2) := ⟨_, rfl⟩
                              (try rw [← hbq20] at hx165_2)
                              (try rw [← hbq20] at hx166_2)
                              (try rw [← hbq20] at hx167_2)
                              (try rw [← hbq20] at hx168_2)
                              replace H : (if (bq20 = true) then (hatstandlaw3_GlyphSpoils.j2 k2 a0 t162 x5_2 false) else (hatstandlaw3_GlyphSpoils.j2 k2 a0 t162 x5_2 ((((rd_T33 t162 x5_2).f1).length : Int) != 0))) = some r := by rw [← hbq20] at H; exact H
                              have Nbq20 := Aside0.mk hbq20
                              clear hbq20
                              by_cases c21 : (bq20 = true)
                              · subst c21
                                have H1 : (hatstandlaw3_GlyphSpoils.j2 k2 a0 t162 x5_2 false) = some r := by rw [if_pos rfl] at H; exact H
                                clear H
                                have H := H1
                                clear H1
                                have H' := Aside0.mk H
                                clear H
                                have p165 : 0 ≤ (x5_2 : Int) := of_decide_eq_true (by first | (with_reducible assumption) | assumption)
                                have q165 : x5_2 < (t162.length : Int) := of_decide_eq_true (by first | (with_reducible assumption) | assumption)
                                obtain ⟨ad165, A165_1, c165_1, e165, hx165_0, hx165_1, hx165_2, hx165_3, hl165_1, hi165_1⟩ := at_T33 (Kd.N_reads' HO_4.out).2.2 x5_2 p165 q165
                                (try rw [← Nbq20.out] at hx165_2)
                                cases e165
                                obtain ⟨ce165, hce165, hMe165, hcc165⟩ := Kd.N_get HO_4.out z33 x5_2 p165 (by first | exact q165 | exact of_decide_eq_true (by first | (with_reducible assumption) | assumption) | (have e_ := (Kd.N_reads' HO_4.out).1; omega))
                                obtain ⟨ua165_1, uc165_1, rfl, ul165_1, ge165_1⟩ := k33_openF hMe165
                                have hv165_1 := hcc165 1 _ rfl
                                rw [add_field _ _ 1 (by omega)] at hv165_1
                                replace hv165_1 := Option.some.inj (hv165_1.symm.trans hx165_1)
                                injection hv165_1 with hva_ hvn_ hvc_
                                rw [hva_] at ge165_1
                                rw [hvc_] at ul165_1
                                have HL165_1 := Aside0.mk (show Kd.V (Kd.int .u64) 51 _ w.heap.size _ _ ((rd_T33 t162 x5_2).f1) from Kd.V_mk ul165_1 ge165_1)
                                clear hva_ hvn_ hvc_ ge165_1 ul165_1
                                clear hcc165 hce165
                                have HR165_1 := Aside0.mk hi165_1
                                have HC165_1 := Aside0.mk hl165_1
                                clear hi165_1 hl165_1
                                replace p165 := eq_true p165
                                replace q165 := eq_true q165
                                have p166 : 0 ≤ (x5_2 : Int) := of_decide_eq_true (by first | (with_reducible assumption) | assumption)
                                have q166 : x5_2 < (t162.length : Int) := of_decide_eq_true (by first | (with_reducible assumption) | assumption)
                                obtain ⟨ad166, A166_1, c166_1, e166, hx166_0, hx166_1, hx166_2, hx166_3, hl166_1, hi166_1⟩ := at_T33 (Kd.N_reads' HO_4.out).2.2 x5_2 p166 q166
                                (try rw [← Nbq20.out] at hx166_2)
                                obtain rfl : ad165 = ad166 := (by injection e166)
                                obtain ⟨ce166, hce166, hMe166, hcc166⟩ := Kd.N_get HO_4.out z33 x5_2 p166 (by first | exact q166 | exact of_decide_eq_true (by first | (with_reducible assumption) | assumption) | (have e_ := (Kd.N_reads' HO_4.out).1; omega))
                                obtain ⟨ua166_1, uc166_1, rfl, ul166_1, ge166_1⟩ := k33_openF hMe166
                                have hv166_1 := hcc166 1 _ rfl
                                rw [add_field _ _ 1 (by omega)] at hv166_1
                                replace hv166_1 := Option.some.inj (hv166_1.symm.trans hx166_1)
                                injection hv166_1 with hva_ hvn_ hvc_
                                rw [hva_] at ge166_1
                                rw [hvc_] at ul166_1
                                have HL166_1 := Aside0.mk (show Kd.V (Kd.int .u64) 51 _ w.heap.size _ _ ((rd_T33 t162 x5_2).f1) from Kd.V_mk ul166_1 ge166_1)
                                clear hva_ hvn_ hvc_ ge166_1 ul166_1
                                clear hcc166 hce166
                                have HR166_1 := Aside0.mk hi166_1
                                have HC166_1 := Aside0.mk hl166_1
                                clear hi166_1 hl166_1
                                replace p166 := eq_true p166
                                replace q166 := eq_true q166
                                have ea_ := Option.some.inj (hx165_1.symm.trans hx166_1)
                                injection ea_ with ea_ en_ ec_
                                subst ea_
                                subst ec_
                                clear en_
                                have p167 : 0 ≤ (x5_2 : Int) := of_decide_eq_true (by first | (with_reducible assumption) | assumption)
                                have q167 : x5_2 < (t162.length : Int) := of_decide_eq_true (by first | (with_reducible assumption) | assumption)
                                obtain ⟨ad167, A167_1, c167_1, e167, hx167_0, hx167_1, hx167_2, hx167_3, hl167_1, hi167_1⟩ := at_T33 (Kd.N_reads' HO_4.out).2.2 x5_2 p167 q167
                                (try rw [← Nbq20.out] at hx167_2)
                                obtain rfl : ad165 = ad167 := (by injection e167)
                                obtain ⟨ce167, hce167, hMe167, hcc167⟩ := Kd.N_get HO_4.out z33 x5_2 p167 (by first | exact q167 | exact of_decide_eq_true (by first | (with_reducible assumption) | assumption) | (have e_ := (Kd.N_reads' HO_4.out).1; omega))
                                obtain ⟨ua167_1, uc167_1, rfl, ul167_1, ge167_1⟩ := k33_openF hMe167
                                have hv167_1 := hcc167 1 _ rfl
                                rw [add_field _ _ 1 (by omega)] at hv167_1
                                replace hv167_1 := Option.some.inj (hv167_1.symm.trans hx167_1)
                                injection hv167_1 with hva_ hvn_ hvc_
                                rw [hva_] at ge167_1
                                rw [hvc_] at ul167_1
                                have HL167_1 := Aside0.mk (show Kd.V (Kd.int .u64) 51 _ w.heap.size _ _ ((rd_T33 t162 x5_2).f1) from Kd.V_mk ul167_1 ge167_1)
                                clear hva_ hvn_ hvc_ ge167_1 ul167_1
                                clear hcc167 hce167
                                have HR167_1 := Aside0.mk hi167_1
                                have HC167_1 := Aside0.mk hl167_1
                                clear hi167_1 hl167_1
                                replace p167 := eq_true p167
                                replace q167 := eq_true q167
                                have ea_ := Option.some.inj (hx165_1.symm.trans hx167_1)
                                injection ea_ with ea_ en_ ec_
                                subst ea_
                                subst ec_
                                clear en_
                                have p168 : 0 ≤ ((ji16) : Int) := of_decide_eq_true (by first | (with_reducible assumption) | assumption)
                                have q168 : (ji16) < (t162.length : Int) := of_decide_eq_true (by first | (with_reducible assumption) | assumption)
                                obtain ⟨ad168, A168_1, c168_1, e168, hx168_0, hx168_1, hx168_2, hx168_3, hl168_1, hi168_1⟩ := at_T33 (Kd.N_reads' HO_4.out).2.2 (ji16) p168 q168
                                (try rw [← Nbq20.out] at hx168_2)
                                obtain rfl : ad165 = ad168 := (by injection e168)
                                obtain ⟨ce168, hce168, hMe168, hcc168⟩ := Kd.N_get HO_4.out z33 (ji16) p168 (by first | exact q168 | exact of_decide_eq_true (by first | (with_reducible assumption) | assumption) | (have e_ := (Kd.N_reads' HO_4.out).1; omega))
                                obtain ⟨ua168_1, uc168_1, rfl, ul168_1, ge168_1⟩ := k33_openF hMe168
                                have hv168_1 := hcc168 1 _ rfl
                                rw [add_field _ _ 1 (by omega)] at hv168_1
                                replace hv168_1 := Option.some.inj (hv168_1.symm.trans hx168_1)
                                injection hv168_1 with hva_ hvn_ hvc_
                                rw [hva_] at ge168_1
                                rw [hvc_] at ul168_1
                                have HL168_1 := Aside0.mk (show Kd.V (Kd.int .u64) 51 _ w.heap.size _ _ ((rd_T33 t162 (ji16)).f1) from Kd.V_mk ul168_1 ge168_1)
                                clear hva_ hvn_ hvc_ ge168_1 ul168_1
                                clear hcc168 hce168
                                have HR168_1 := Aside0.mk hi168_1
                                have HC168_1 := Aside0.mk hl168_1
                                clear hi168_1 hl168_1
                                replace p168 := eq_true p168
                                replace q168 := eq_true q168
                                have p169 : 0 ≤ (x5_2 : Int) := of_decide_eq_true (by first | (with_reducible assumption) | assumption)
                                have q169 : x5_2 < (t162.length : Int) := of_decide_eq_true (by first | (with_reducible assumption) | assumption)
                                obtain ⟨ad169, A169_1, c169_1, e169, hx169_0, hx169_1, hx169_2, hx169_3, hl169_1, hi169_1⟩ := at_T33 (Kd.N_reads' HO_4.out).2.2 x5_2 p169 q169
                                (try rw [← Nbq20.out] at hx169_2)
                                obtain rfl : ad165 = ad169 := (by injection e169)
                                obtain ⟨ce169, hce169, hMe169, hcc169⟩ := Kd.N_get HO_4.out z33 x5_2 p169 (by first | exact q169 | exact of_decide_eq_true (by first | (with_reducible assumption) | assumption) | (have e_ := (Kd.N_reads' HO_4.out).1; omega))
                                obtain ⟨ua169_1, uc169_1, rfl, ul169_1, ge169_1⟩ := k33_openF hMe169
                                have hv169_1 := hcc169 1 _ rfl
                                rw [add_field _ _ 1 (by omega)] at hv169_1
                                replace hv169_1 := Option.some.inj (hv169_1.symm.trans hx169_1)
                                injection hv169_1 with hva_ hvn_ hvc_
                                rw [hva_] at ge169_1
                                rw [hvc_] at ul169_1
                                have HL169_1 := Aside0.mk (show Kd.V (Kd.int .u64) 51 _ w.heap.size _ _ ((rd_T33 t162 x5_2).f1) from Kd.V_mk ul169_1 ge169_1)
                                clear hva_ hvn_ hvc_ ge169_1 ul169_1
                                clear hcc169 hce169
                                have HR169_1 := Aside0.mk hi169_1
                                have HC169_1 := Aside0.mk hl169_1
                                clear hi169_1 hl169_1
                                replace p169 := eq_true p169
                                replace q169 := eq_true q169
                                have ea_ := Option.some.inj (hx165_1.symm.trans hx169_1)
                                injection ea_ with ea_ en_ ec_
                                subst ea_
                                subst ec_
                                clear en_
                                go_wp2
                                repeat (go_quiet (fail); try go_wp2)
                                go_meet
                                case rel => exact ⟨_, (false), (by first | rfl | (simp; done) | (simp [*]; done) | exact isEmpty_bne _), H', ⟨by have := HJ2.out; have := HK2.out; first | omega | exact Nat.le_refl _⟩, ⟨by (with_reducible repeat (first | apply Kd.N_alloc | apply Kd.N_drewN | apply Kd.N_drew)); exact HO_4.out⟩, ⟨by repeat (first | (with_reducible first | exact HB.out | apply below_alloc | apply pw_below_drewN | apply below_drew1) | exact HB.out)⟩⟩
                              · replace c21 := Bool.eq_false_iff.mpr c21
                                subst c21
                                have H1 : (hatstandlaw3_GlyphSpoils.j2 k2 a0 t162 x5_2 ((((rd_T33 t162 x5_2).f1).length : Int) != 0)) = some r := by rw [if_neg (show ¬ (false = true) by decide)] at H; exact H
                                clear H
                                have H := H1
                                clear H1
                                have H' := Aside0.mk H
                                clear H
                                have p165 : 0 ≤ (x5_2 : Int) := of_decide_eq_true (by first | (with_reducible assumption) | assumption)
                                have q165 : x5_2 < (t162.length : Int) := of_decide_eq_true (by first | (with_reducible assumption) | assumption)
                                obtain ⟨ad165, A165_1, c165_1, e165, hx165_0, hx165_1, hx165_2, hx165_3, hl165_1, hi165_1⟩ := at_T33 (Kd.N_reads' HO_4.out).2.2 x5_2 p165 q165
                                (try rw [← Nbq20.out] at hx165_2)
                                cases e165
                                obtain ⟨ce165, hce165, hMe165, hcc165⟩ := Kd.N_get HO_4.out z33 x5_2 p165 (by first | exact q165 | exact of_decide_eq_true (by first | (with_reducible assumption) | assumption) | (have e_ := (Kd.N_reads' HO_4.out).1; omega))
                                obtain ⟨ua165_1, uc165_1, rfl, ul165_1, ge165_1⟩ := k33_openF hMe165
                                have hv165_1 := hcc165 1 _ rfl
                                rw [add_field _ _ 1 (by omega)] at hv165_1
                                replace hv165_1 := Option.some.inj (hv165_1.symm.trans hx165_1)
                                injection hv165_1 with hva_ hvn_ hvc_
                                rw [hva_] at ge165_1
                                rw [hvc_] at ul165_1
                                have HL165_1 := Aside0.mk (show Kd.V (Kd.int .u64) 51 _ w.heap.size _ _ ((rd_T33 t162 x5_2).f1) from Kd.V_mk ul165_1 ge165_1)
                                clear hva_ hvn_ hvc_ ge165_1 ul165_1
                                clear hcc165 hce165
                                have HR165_1 := Aside0.mk hi165_1
                                have HC165_1 := Aside0.mk hl165_1
                                clear hi165_1 hl165_1
                                replace p165 := eq_true p165
                                replace q165 := eq_true q165
                                have p166 : 0 ≤ (x5_2 : Int) := of_decide_eq_true (by first | (with_reducible assumption) | assumption)
                                have q166 : x5_2 < (t162.length : Int) := of_decide_eq_true (by first | (with_reducible assumption) | assumption)
                                obtain ⟨ad166, A166_1, c166_1, e166, hx166_0, hx166_1, hx166_2, hx166_3, hl166_1, hi166_1⟩ := at_T33 (Kd.N_reads' HO_4.out).2.2 x5_2 p166 q166
                                (try rw [← Nbq20.out] at hx166_2)
                                obtain rfl : ad165 = ad166 := (by injection e166)
                                obtain ⟨ce166, hce166, hMe166, hcc166⟩ := Kd.N_get HO_4.out z33 x5_2 p166 (by first | exact q166 | exact of_decide_eq_true (by first | (with_reducible assumption) | assumption) | (have e_ := (Kd.N_reads' HO_4.out).1; omega))
                                obtain ⟨ua166_1, uc166_1, rfl, ul166_1, ge166_1⟩ := k33_openF hMe166
                                have hv166_1 := hcc166 1 _ rfl
                                rw [add_field _ _ 1 (by omega)] at hv166_1
                                replace hv166_1 := Option.some.inj (hv166_1.symm.trans hx166_1)
                                injection hv166_1 with hva_ hvn_ hvc_
                                rw [hva_] at ge166_1
                                rw [hvc_] at ul166_1
                                have HL166_1 := Aside0.mk (show Kd.V (Kd.int .u64) 51 _ w.heap.size _ _ ((rd_T33 t162 x5_2).f1) from Kd.V_mk ul166_1 ge166_1)
                                clear hva_ hvn_ hvc_ ge166_1 ul166_1
                                clear hcc166 hce166
                                have HR166_1 := Aside0.mk hi166_1
                                have HC166_1 := Aside0.mk hl166_1
                                clear hi166_1 hl166_1
                                replace p166 := eq_true p166
                                replace q166 := eq_true q166
                                have ea_ := Option.some.inj (hx165_1.symm.trans hx166_1)
                                injection ea_ with ea_ en_ ec_
                                subst ea_
                                subst ec_
                                clear en_
                                have p167 : 0 ≤ (x5_2 : Int) := of_decide_eq_true (by first | (with_reducible assumption) | assumption)
                                have q167 : x5_2 < (t162.length : Int) := of_decide_eq_true (by first | (with_reducible assumption) | assumption)
                                obtain ⟨ad167, A167_1, c167_1, e167, hx167_0, hx167_1, hx167_2, hx167_3, hl167_1, hi167_1⟩ := at_T33 (Kd.N_reads' HO_4.out).2.2 x5_2 p167 q167
                                (try rw [← Nbq20.out] at hx167_2)
                                obtain rfl : ad165 = ad167 := (by injection e167)
                                obtain ⟨ce167, hce167, hMe167, hcc167⟩ := Kd.N_get HO_4.out z33 x5_2 p167 (by first | exact q167 | exact of_decide_eq_true (by first | (with_reducible assumption) | assumption) | (have e_ := (Kd.N_reads' HO_4.out).1; omega))
                                obtain ⟨ua167_1, uc167_1, rfl, ul167_1, ge167_1⟩ := k33_openF hMe167
                                have hv167_1 := hcc167 1 _ rfl
                                rw [add_field _ _ 1 (by omega)] at hv167_1
                                replace hv167_1 := Option.some.inj (hv167_1.symm.trans hx167_1)
                                injection hv167_1 with hva_ hvn_ hvc_
                                rw [hva_] at ge167_1
                                rw [hvc_] at ul167_1
                                have HL167_1 := Aside0.mk (show Kd.V (Kd.int .u64) 51 _ w.heap.size _ _ ((rd_T33 t162 x5_2).f1) from Kd.V_mk ul167_1 ge167_1)
                                clear hva_ hvn_ hvc_ ge167_1 ul167_1
                                clear hcc167 hce167
                                have HR167_1 := Aside0.mk hi167_1
                                have HC167_1 := Aside0.mk hl167_1
                                clear hi167_1 hl167_1
                                replace p167 := eq_true p167
                                replace q167 := eq_true q167
                                have ea_ := Option.some.inj (hx165_1.symm.trans hx167_1)
                                injection ea_ with ea_ en_ ec_
                                subst ea_
                                subst ec_
                                clear en_
                                have p168 : 0 ≤ ((ji16) : Int) := of_decide_eq_true (by first | (with_reducible assumption) | assumption)
                                have q168 : (ji16) < (t162.length : Int) := of_decide_eq_true (by first | (with_reducible assumption) | assumption)
                                obtain ⟨ad168, A168_1, c168_1, e168, hx168_0, hx168_1, hx168_2, hx168_3, hl168_1, hi168_1⟩ := at_T33 (Kd.N_reads' HO_4.out).2.2 (ji16) p168 q168
                                (try rw [← Nbq20.out] at hx168_2)
                                obtain rfl : ad165 = ad168 := (by injection e168)
                                obtain ⟨ce168, hce168, hMe168, hcc168⟩ := Kd.N_get HO_4.out z33 (ji16) p168 (by first | exact q168 | exact of_decide_eq_true (by first | (with_reducible assumption) | assumption) | (have e_ := (Kd.N_reads' HO_4.out).1; omega))
                                obtain ⟨ua168_1, uc168_1, rfl, ul168_1, ge168_1⟩ := k33_openF hMe168
                                have hv168_1 := hcc168 1 _ rfl
                                rw [add_field _ _ 1 (by omega)] at hv168_1
                                replace hv168_1 := Option.some.inj (hv168_1.symm.trans hx168_1)
                                injection hv168_1 with hva_ hvn_ hvc_
                                rw [hva_] at ge168_1
                                rw [hvc_] at ul168_1
                                have HL168_1 := Aside0.mk (show Kd.V (Kd.int .u64) 51 _ w.heap.size _ _ ((rd_T33 t162 (ji16)).f1) from Kd.V_mk ul168_1 ge168_1)
                                clear hva_ hvn_ hvc_ ge168_1 ul168_1
                                clear hcc168 hce168
                                have HR168_1 := Aside0.mk hi168_1
                                have HC168_1 := Aside0.mk hl168_1
                                clear hi168_1 hl168_1
                                replace p168 := eq_true p168
                                replace q168 := eq_true q168
                                have p169 : 0 ≤ (x5_2 : Int) := of_decide_eq_true (by first | (with_reducible assumption) | assumption)
                                have q169 : x5_2 < (t162.length : Int) := of_decide_eq_true (by first | (with_reducible assumption) | assumption)
                                obtain ⟨ad169, A169_1, c169_1, e169, hx169_0, hx169_1, hx169_2, hx169_3, hl169_1, hi169_1⟩ := at_T33 (Kd.N_reads' HO_4.out).2.2 x5_2 p169 q169
                                (try rw [← Nbq20.out] at hx169_2)
                                obtain rfl : ad165 = ad169 := (by injection e169)
                                obtain ⟨ce169, hce169, hMe169, hcc169⟩ := Kd.N_get HO_4.out z33 x5_2 p169 (by first | exact q169 | exact of_decide_eq_true (by first | (with_reducible assumption) | assumption) | (have e_ := (Kd.N_reads' HO_4.out).1; omega))
                                obtain ⟨ua169_1, uc169_1, rfl, ul169_1, ge169_1⟩ := k33_openF hMe169
                                have hv169_1 := hcc169 1 _ rfl
                                rw [add_field _ _ 1 (by omega)] at hv169_1
                                replace hv169_1 := Option.some.inj (hv169_1.symm.trans hx169_1)
                                injection hv169_1 with hva_ hvn_ hvc_
                                rw [hva_] at ge169_1
                                rw [hvc_] at ul169_1
                                have HL169_1 := Aside0.mk (show Kd.V (Kd.int .u64) 51 _ w.heap.size _ _ ((rd_T33 t162 x5_2).f1) from Kd.V_mk ul169_1 ge169_1)
                                clear hva_ hvn_ hvc_ ge169_1 ul169_1
                                clear hcc169 hce169
                                have HR169_1 := Aside0.mk hi169_1
                                have HC169_1 := Aside0.mk hl169_1
                                clear hi169_1 hl169_1
                                replace p169 := eq_true p169
                                replace q169 := eq_true q169
                                have ea_ := Option.some.inj (hx165_1.symm.trans hx169_1)
                                injection ea_ with ea_ en_ ec_
                                subst ea_
                                subst ec_
                                clear en_
                                have p170 : 0 ≤ (x5_2 : Int) := of_decide_eq_true (by first | (with_reducible assumption) | assumption)
                                have q170 : x5_2 < (t162.length : Int) := of_decide_eq_true (by first | (with_reducible assumption) | assumption)
                                obtain ⟨ad170, A170_1, c170_1, e170, hx170_0, hx170_1, hx170_2, hx170_3, hl170_1, hi170_1⟩ := at_T33 (Kd.N_reads' HO_4.out).2.2 x5_2 p170 q170
                                (try rw [← Nbq20.out] at hx170_2)
                                obtain rfl : ad165 = ad170 := (by injection e170)
                                obtain ⟨ce170, hce170, hMe170, hcc170⟩ := Kd.N_get HO_4.out z33 x5_2 p170 (by first | exact q170 | exact of_decide_eq_true (by first | (with_reducible assumption) | assumption) | (have e_ := (Kd.N_reads' HO_4.out).1; omega))
                                obtain ⟨ua170_1, uc170_1, rfl, ul170_1, ge170_1⟩ := k33_openF hMe170
                                have hv170_1 := hcc170 1 _ rfl
                                rw [add_field _ _ 1 (by omega)] at hv170_1
                                replace hv170_1 := Option.some.inj (hv170_1.symm.trans hx170_1)
                                injection hv170_1 with hva_ hvn_ hvc_
                                rw [hva_] at ge170_1
                                rw [hvc_] at ul170_1
                                have HL170_1 := Aside0.mk (show Kd.V (Kd.int .u64) 51 _ w.heap.size _ _ ((rd_T33 t162 x5_2).f1) from Kd.V_mk ul170_1 ge170_1)
                                clear hva_ hvn_ hvc_ ge170_1 ul170_1
                                clear hcc170 hce170
                                have HR170_1 := Aside0.mk hi170_1
                                have HC170_1 := Aside0.mk hl170_1
                                clear hi170_1 hl170_1
                                replace p170 := eq_true p170
                                replace q170 := eq_true q170
                                have ea_ := Option.some.inj (hx165_1.symm.trans hx170_1)
                                injection ea_ with ea_ en_ ec_
                                subst ea_
                                subst ec_
                                clear en_
                                go_wp2
                                repeat (go_quiet (fail); try go_wp2)
                                go_meet
                                case rel => exact ⟨_, (((((rd_T33 t162 x5_2).f1).length : Int) != 0)), (by first | rfl | (simp; done) | (simp [*]; done) | exact isEmpty_bne _), H', ⟨by have := HJ2.out; have := HK2.out; first | omega | exact Nat.le_refl _⟩, ⟨by (with_reducible repeat (first | apply Kd.N_alloc | apply Kd.N_drewN | apply Kd.N_drew)); exact HO_4.out⟩, ⟨by repeat (first | (with_reducible first | exact HB.out | apply below_alloc | apply pw_below_drewN | apply below_drew1) | exact HB.out)⟩⟩
                          · rw [if_neg c18] at H
                            exact absurd H (by simp)
                        · rw [if_neg c17] at H
                          exact absurd H (by simp)
                      · rw [if_neg c15] at H
                        have c15b0 : decide (0 < x5_2) = false := decide_eq_false c15
                        clear c15
                        obtain ⟨bq22, hbq22⟩ : ∃ b_ : Bool, b_ = ((rd_T33 t162 x5_2).f2) := ⟨_, rfl⟩
                        (try rw [← hbq22] at hx165_2)
                        (try rw [← hbq22] at hx166_2)
                        (try rw [← hbq22] at hx167_2)
                        (try rw [← hbq22] at hx168_2)
                        (try rw [← hbq22] at hx169_2)
                        (try rw [← hbq22] at hx170_2)
                        replace H : (if (bq22 = true) then (hatstandlaw3_GlyphSpoils.j2 k2 a0 t162 x5_2 false) else (hatstandlaw3_GlyphSpoils.j2 k2 a0 t162 x5_2 ((((rd_T33 t162 x5_2).f1).length : Int) != 0))) = some r := by rw [← hbq22] at H; exact H
                        have Nbq22 := Aside0.mk hbq22
                        clear hbq22
                        by_cases c23 : (bq22 = true)
                        · subst c23
                          have H1 : (hatstandlaw3_GlyphSpoils.j2 k2 a0 t162 x5_2 false) = some r := by rw [if_pos rfl] at H; exact H
                          clear H
                          have H := H1
                          clear H1
                          have H' := Aside0.mk H
                          clear H
                          have p165 : 0 ≤ (x5_2 : Int) := of_decide_eq_true (by first | (with_reducible assumption) | assumption)
                          have q165 : x5_2 < (t162.length : Int) := of_decide_eq_true (by first | (with_reducible assumption) | assumption)
                          obtain ⟨ad165, A165_1, c165_1, e165, hx165_0, hx165_1, hx165_2, hx165_3, hl165_1, hi165_1⟩ := at_T33 (Kd.N_reads' HO_4.out).2.2 x5_2 p165 q165
                          (try rw [← Nbq22.out] at hx165_2)
                          cases e165
                          obtain ⟨ce165, hce165, hMe165, hcc165⟩ := Kd.N_get HO_4.out z33 x5_2 p165 (by first | exact q165 | exact of_decide_eq_true (by first | (with_reducible assumption) | assumption) | (have e_ := (Kd.N_reads' HO_4.out).1; omega))
                          obtain ⟨ua165_1, uc165_1, rfl, ul165_1, ge165_1⟩ := k33_openF hMe165
                          have hv165_1 := hcc165 1 _ rfl
                          rw [add_field _ _ 1 (by omega)] at hv165_1
                          replace hv165_1 := Option.some.inj (hv165_1.symm.trans hx165_1)
                          injection hv165_1 with hva_ hvn_ hvc_
                          rw [hva_] at ge165_1
                          rw [hvc_] at ul165_1
                          have HL165_1 := Aside0.mk (show Kd.V (Kd.int .u64) 51 _ w.heap.size _ _ ((rd_T33 t162 x5_2).f1) from Kd.V_mk ul165_1 ge165_1)
                          clear hva_ hvn_ hvc_ ge165_1 ul165_1
                          clear hcc165 hce165
                          have HR165_1 := Aside0.mk hi165_1
                          have HC165_1 := Aside0.mk hl165_1
                          clear hi165_1 hl165_1
                          replace p165 := eq_true p165
                          replace q165 := eq_true q165
                          have p166 : 0 ≤ (x5_2 : Int) := of_decide_eq_true (by first | (with_reducible assumption) | assumption)
                          have q166 : x5_2 < (t162.length : Int) := of_decide_eq_true (by first | (with_reducible assumption) | assumption)
                          obtain ⟨ad166, A166_1, c166_1, e166, hx166_0, hx166_1, hx166_2, hx166_3, hl166_1, hi166_1⟩ := at_T33 (Kd.N_reads' HO_4.out).2.2 x5_2 p166 q166
                          (try rw [← Nbq22.out] at hx166_2)
                          obtain rfl : ad165 = ad166 := (by injection e166)
                          obtain ⟨ce166, hce166, hMe166, hcc166⟩ := Kd.N_get HO_4.out z33 x5_2 p166 (by first | exact q166 | exact of_decide_eq_true (by first | (with_reducible assumption) | assumption) | (have e_ := (Kd.N_reads' HO_4.out).1; omega))
                          obtain ⟨ua166_1, uc166_1, rfl, ul166_1, ge166_1⟩ := k33_openF hMe166
                          have hv166_1 := hcc166 1 _ rfl
                          rw [add_field _ _ 1 (by omega)] at hv166_1
                          replace hv166_1 := Option.some.inj (hv166_1.symm.trans hx166_1)
                          injection hv166_1 with hva_ hvn_ hvc_
                          rw [hva_] at ge166_1
                          rw [hvc_] at ul166_1
                          have HL166_1 := Aside0.mk (show Kd.V (Kd.int .u64) 51 _ w.heap.size _ _ ((rd_T33 t162 x5_2).f1) from Kd.V_mk ul166_1 ge166_1)
                          clear hva_ hvn_ hvc_ ge166_1 ul166_1
                          clear hcc166 hce166
                          have HR166_1 := Aside0.mk hi166_1
                          have HC166_1 := Aside0.mk hl166_1
                          clear hi166_1 hl166_1
                          replace p166 := eq_true p166
                          replace q166 := eq_true q166
                          have ea_ := Option.some.inj (hx165_1.symm.trans hx166_1)
                          injection ea_ with ea_ en_ ec_
                          subst ea_
                          subst ec_
                          clear en_
                          have p171 : 0 ≤ (x5_2 : Int) := of_decide_eq_true (by first | (with_reducible assumption) | assumption)
                          have q171 : x5_2 < (t162.length : Int) := of_decide_eq_true (by first | (with_reducible assumption) | assumption)
                          obtain ⟨ad171, A171_1, c171_1, e171, hx171_0, hx171_1, hx171_2, hx171_3, hl171_1, hi171_1⟩ := at_T33 (Kd.N_reads' HO_4.out).2.2 x5_2 p171 q171
                          (try rw [← Nbq22.out] at hx171_2)
                          obtain rfl : ad165 = ad171 := (by injection e171)
                          obtain ⟨ce171, hce171, hMe171, hcc171⟩ := Kd.N_get HO_4.out z33 x5_2 p171 (by first | exact q171 | exact of_decide_eq_true (by first | (with_reducible assumption) | assumption) | (have e_ := (Kd.N_reads' HO_4.out).1; omega))
                          obtain ⟨ua171_1, uc171_1, rfl, ul171_1, ge171_1⟩ := k33_openF hMe171
                          have hv171_1 := hcc171 1 _ rfl
                          rw [add_field _ _ 1 (by omega)] at hv171_1
                          replace hv171_1 := Option.some.inj (hv171_1.symm.trans hx171_1)
                          injection hv171_1 with hva_ hvn_ hvc_
                          rw [hva_] at ge171_1
                          rw [hvc_] at ul171_1
                          have HL171_1 := Aside0.mk (show Kd.V (Kd.int .u64) 51 _ w.heap.size _ _ ((rd_T33 t162 x5_2).f1) from Kd.V_mk ul171_1 ge171_1)
                          clear hva_ hvn_ hvc_ ge171_1 ul171_1
                          clear hcc171 hce171
                          have HR171_1 := Aside0.mk hi171_1
                          have HC171_1 := Aside0.mk hl171_1
                          clear hi171_1 hl171_1
                          replace p171 := eq_true p171
                          replace q171 := eq_true q171
                          have ea_ := Option.some.inj (hx165_1.symm.trans hx171_1)
                          injection ea_ with ea_ en_ ec_
                          subst ea_
                          subst ec_
                          clear en_
                          go_wp2
                          repeat (go_quiet (fail); try go_wp2)
                          go_meet
                          case rel => exact ⟨_, (false), (by first | rfl | (simp; done) | (simp [*]; done) | exact isEmpty_bne _), H', ⟨by have := HJ2.out; have := HK2.out; first | omega | exact Nat.le_refl _⟩, ⟨by (with_reducible repeat (first | apply Kd.N_alloc | apply Kd.N_drewN | apply Kd.N_drew)); exact HO_4.out⟩, ⟨by repeat (first | (with_reducible first | exact HB.out | apply below_alloc | apply pw_below_drewN | apply below_drew1) | exact HB.out)⟩⟩
                        · replace c23 := Bool.eq_false_iff.mpr c23
                          subst c23
                          have H1 : (hatstandlaw3_GlyphSpoils.j2 k2 a0 t162 x5_2 ((((rd_T33 t162 x5_2).f1).length : Int) != 0)) = some r := by rw [if_neg (show ¬ (false = true) by decide)] at H; exact H
                          clear H
                          have H := H1
                          clear H1
                          have H' := Aside0.mk H
                          clear H
                          have p165 : 0 ≤ (x5_2 : Int) := of_decide_eq_true (by first | (with_reducible assumption) | assumption)
                          have q165 : x5_2 < (t162.length : Int) := of_decide_eq_true (by first | (with_reducible assumption) | assumption)
                          obtain ⟨ad165, A165_1, c165_1, e165, hx165_0, hx165_1, hx165_2, hx165_3, hl165_1, hi165_1⟩ := at_T33 (Kd.N_reads' HO_4.out).2.2 x5_2 p165 q165
                          (try rw [← Nbq22.out] at hx165_2)
                          cases e165
                          obtain ⟨ce165, hce165, hMe165, hcc165⟩ := Kd.N_get HO_4.out z33 x5_2 p165 (by first | exact q165 | exact of_decide_eq_true (by first | (with_reducible assumption) | assumption) | (have e_ := (Kd.N_reads' HO_4.out).1; omega))
                          obtain ⟨ua165_1, uc165_1, rfl, ul165_1, ge165_1⟩ := k33_openF hMe165
                          have hv165_1 := hcc165 1 _ rfl
                          rw [add_field _ _ 1 (by omega)] at hv165_1
                          replace hv165_1 := Option.some.inj (hv165_1.symm.trans hx165_1)
                          injection hv165_1 with hva_ hvn_ hvc_
                          rw [hva_] at ge165_1
                          rw [hvc_] at ul165_1
                          have HL165_1 := Aside0.mk (show Kd.V (Kd.int .u64) 51 _ w.heap.size _ _ ((rd_T33 t162 x5_2).f1) from Kd.V_mk ul165_1 ge165_1)
                          clear hva_ hvn_ hvc_ ge165_1 ul165_1
                          clear hcc165 hce165
                          have HR165_1 := Aside0.mk hi165_1
                          have HC165_1 := Aside0.mk hl165_1
                          clear hi165_1 hl165_1
                          replace p165 := eq_true p165
                          replace q165 := eq_true q165
                          have p166 : 0 ≤ (x5_2 : Int) := of_decide_eq_true (by first | (with_reducible assumption) | assumption)
                          have q166 : x5_2 < (t162.length : Int) := of_decide_eq_true (by first | (with_reducible assumption) | assumption)
                          obtain ⟨ad166, A166_1, c166_1, e166, hx166_0, hx166_1, hx166_2, hx166_3, hl166_1, hi166_1⟩ := at_T33 (Kd.N_reads' HO_4.out).2.2 x5_2 p166 q166
                          (try rw [← Nbq22.out] at hx166_2)
                          obtain rfl : ad165 = ad166 := (by injection e166)
                          obtain ⟨ce166, hce166, hMe166, hcc166⟩ := Kd.N_get HO_4.out z33 x5_2 p166 (by first | exact q166 | exact of_decide_eq_true (by first | (with_reducible assumption) | assumption) | (have e_ := (Kd.N_reads' HO_4.out).1; omega))
                          obtain ⟨ua166_1, uc166_1, rfl, ul166_1, ge166_1⟩ := k33_openF hMe166
                          have hv166_1 := hcc166 1 _ rfl
                          rw [add_field _ _ 1 (by omega)] at hv166_1
                          replace hv166_1 := Option.some.inj (hv166_1.symm.trans hx166_1)
                          injection hv166_1 with hva_ hvn_ hvc_
                          rw [hva_] at ge166_1
                          rw [hvc_] at ul166_1
                          have HL166_1 := Aside0.mk (show Kd.V (Kd.int .u64) 51 _ w.heap.size _ _ ((rd_T33 t162 x5_2).f1) from Kd.V_mk ul166_1 ge166_1)
                          clear hva_ hvn_ hvc_ ge166_1 ul166_1
                          clear hcc166 hce166
                          have HR166_1 := Aside0.mk hi166_1
                          have HC166_1 := Aside0.mk hl166_1
                          clear hi166_1 hl166_1
                          replace p166 := eq_true p166
                          replace q166 := eq_true q166
                          have ea_ := Option.some.inj (hx165_1.symm.trans hx166_1)
                          injection ea_ with ea_ en_ ec_
                          subst ea_
                          subst ec_
                          clear en_
                          have p171 : 0 ≤ (x5_2 : Int) := of_decide_eq_true (by first | (with_reducible assumption) | assumption)
                          have q171 : x5_2 < (t162.length : Int) := of_decide_eq_true (by first | (with_reducible assumption) | assumption)
                          obtain ⟨ad171, A171_1, c171_1, e171, hx171_0, hx171_1, hx171_2, hx171_3, hl171_1, hi171_1⟩ := at_T33 (Kd.N_reads' HO_4.out).2.2 x5_2 p171 q171
                          (try rw [← Nbq22.out] at hx171_2)
                          obtain rfl : ad165 = ad171 := (by injection e171)
                          obtain ⟨ce171, hce171, hMe171, hcc171⟩ := Kd.N_get HO_4.out z33 x5_2 p171 (by first | exact q171 | exact of_decide_eq_true (by first | (with_reducible assumption) | assumption) | (have e_ := (Kd.N_reads' HO_4.out).1; omega))
                          obtain ⟨ua171_1, uc171_1, rfl, ul171_1, ge171_1⟩ := k33_openF hMe171
                          have hv171_1 := hcc171 1 _ rfl
                          rw [add_field _ _ 1 (by omega)] at hv171_1
                          replace hv171_1 := Option.some.inj (hv171_1.symm.trans hx171_1)
                          injection hv171_1 with hva_ hvn_ hvc_
                          rw [hva_] at ge171_1
                          rw [hvc_] at ul171_1
                          have HL171_1 := Aside0.mk (show Kd.V (Kd.int .u64) 51 _ w.heap.size _ _ ((rd_T33 t162 x5_2).f1) from Kd.V_mk ul171_1 ge171_1)
                          clear hva_ hvn_ hvc_ ge171_1 ul171_1
                          clear hcc171 hce171
                          have HR171_1 := Aside0.mk hi171_1
                          have HC171_1 := Aside0.mk hl171_1
                          clear hi171_1 hl171_1
                          replace p171 := eq_true p171
                          replace q171 := eq_true q171
                          have ea_ := Option.some.inj (hx165_1.symm.trans hx171_1)
                          injection ea_ with ea_ en_ ec_
                          subst ea_
                          subst ec_
                          clear en_
                          have p172 : 0 ≤ (x5_2 : Int) := of_decide_eq_true (by first | (with_reducible assumption) | assumption)
                          have q172 : x5_2 < (t162.length : Int) := of_decide_eq_true (by first | (with_reducible assumption) | assumption)
                          obtain ⟨ad172, A172_1, c172_1, e172, hx172_0, hx172_1, hx172_2, hx172_3, hl172_1, hi172_1⟩ := at_T33 (Kd.N_reads' HO_4.out).2.2 x5_2 p172 q172
                          (try rw [← Nbq22.out] at hx172_2)
                          obtain rfl : ad165 = ad172 := (by injection e172)
                          obtain ⟨ce172, hce172, hMe172, hcc172⟩ := Kd.N_get HO_4.out z33 x5_2 p172 (by first | exact q172 | exact of_decide_eq_true (by first | (with_reducible assumption) | assumption) | (have e_ := (Kd.N_reads' HO_4.out).1; omega))
                          obtain ⟨ua172_1, uc172_1, rfl, ul172_1, ge172_1⟩ := k33_openF hMe172
                          have hv172_1 := hcc172 1 _ rfl
                          rw [add_field _ _ 1 (by omega)] at hv172_1
                          replace hv172_1 := Option.some.inj (hv172_1.symm.trans hx172_1)
                          injection hv172_1 with hva_ hvn_ hvc_
                          rw [hva_] at ge172_1
                          rw [hvc_] at ul172_1
                          have HL172_1 := Aside0.mk (show Kd.V (Kd.int .u64) 51 _ w.heap.size _ _ ((rd_T33 t162 x5_2).f1) from Kd.V_mk ul172_1 ge172_1)
                          clear hva_ hvn_ hvc_ ge172_1 ul172_1
                          clear hcc172 hce172
                          have HR172_1 := Aside0.mk hi172_1
                          have HC172_1 := Aside0.mk hl172_1
                          clear hi172_1 hl172_1
                          replace p172 := eq_true p172
                          replace q172 := eq_true q172
                          have ea_ := Option.some.inj (hx165_1.symm.trans hx172_1)
                          injection ea_ with ea_ en_ ec_
                          subst ea_
                          subst ec_
                          clear en_
                          go_wp2
                          repeat (go_quiet (fail); try go_wp2)
                          go_meet
                          case rel => exact ⟨_, (((((rd_T33 t162 x5_2).f1).length : Int) != 0)), (by first | rfl | (simp; done) | (simp [*]; done) | exact isEmpty_bne _), H', ⟨by have := HJ2.out; have := HK2.out; first | omega | exact Nat.le_refl _⟩, ⟨by (with_reducible repeat (first | apply Kd.N_alloc | apply Kd.N_drewN | apply Kd.N_drew)); exact HO_4.out⟩, ⟨by repeat (first | (with_reducible first | exact HB.out | apply below_alloc | apply pw_below_drewN | apply below_drew1) | exact HB.out)⟩⟩
                · rw [if_neg c12] at H
                  exact absurd H (by simp)
              case rest => as_aux_lemma =>
                clear HC10
                try clear c1
                try clear p1
                try clear q1
                try clear hx1
                try clear c2
                try clear p2
                try clear q2
                try clear c12
                try clear c15
                try clear c15b0
                try clear c16
                try clear p16
                try clear q16
                try clear hx16
                try clear c17
                try clear p17
                try clear q17
                try clear hx17
                try clear c18
                try clear c19
                try clear c19b0
                try clear q20
                try clear c21
                try clear q22
                try clear c23
                try clear hx165_0
                try clear hx165_1
                try clear hx165_2
                try clear hx165_3
                try clear hx166_0
                try clear hx166_1
                try clear hx166_2
                try clear hx166_3
                try clear hx167_0
                try clear hx167_1
                try clear hx167_2
                try clear hx167_3
                try clear hx168_0
                try clear hx168_1
                try clear hx168_2
                try clear hx168_3
                try clear hx169_0
                try clear hx169_1
                try clear hx169_2
                try clear hx169_3
                try clear hx170_0
                try clear hx170_1
                try clear hx170_2
                try clear hx170_3
                try clear hx171_0
                try clear hx171_1
                try clear hx171_2
                try clear hx171_3
                try clear hx172_0
                try clear hx172_1
                try clear hx172_2
                try clear hx172_3
                try clear p165
                try clear p166
                try clear p167
                try clear p168
                try clear p169
                try clear p170
                try clear p171
                try clear p172
                try clear q165
                try clear q166
                try clear q167
                try clear q168
                try clear q169
                try clear q170
                try clear q171
                try clear q172
                obtain ⟨kq, x75_9, rfl, HA, HJ9, HO_4, HB⟩ := hcut
                cases kq with
                | zero => exact absurd HA.out (by simp [hatstandlaw3_GlyphSpoils.j2])
                | succ kj9 =>
                  have H := HA.out
                  clear HA
                  simp only [hatstandlaw3_GlyphSpoils.j2] at H
                  by_cases c24 : x75_9 = true
                  · subst c24
                    have H1 : (some false) = some r := by rw [if_pos rfl] at H; exact H
                    clear H
                    have H := H1
                    clear H1
                    obtain rfl := Option.some.inj H
                    go_wp2
                    repeat (go_quiet (fail); try go_wp2)
                    go_ret
                    exact ⟨by first | rfl | (simp [errW_none, errW_some] <;> rfl) | (simp [*, errW_none, errW_some] <;> rfl), by repeat (first | (with_reducible first | exact HB.out | apply below_alloc | apply pw_below_drewN | apply below_drew1) | exact HB.out)⟩
                  · replace c24 := Bool.eq_false_iff.mpr c24
                    subst c24
                    have H1 : (if (wrap64 (x5_2 + 1)) < (t162.length : Int) then (if 0 ≤ (wrap64 (x5_2 + 1)) then (hatstandlaw3_GlyphSpoils.j3 kj9 a0 t162 x5_2 ((rd_T33 t162 (wrap64 (x5_2 + 1))).f3)) else (none)) else (hatstandlaw3_GlyphSpoils.j3 kj9 a0 t162 x5_2 (a0.size : Int))) = some r := by rw [if_neg (show ¬ (false = true) by decide)] at H; exact H
                    clear H
                    have H := H1
                    clear H1
                    have HC25 := Aside0.mk H
                    clear H
                    go_upto_if 82 with (fail)
                    repeat (go_quiet (fail); go_upto_if 82 with (fail))
                    go_cut [6] (fun v6 wc => ∃ (kq : Nat) (x6_24 : Int), v6 = .int .i64 x6_24 ∧ Aside0 (hatstandlaw3_GlyphSpoils.j3 kq a0 t162 x5_2 x6_24 = some r) ∧ Aside0 (kq ≤ kj9) ∧ Aside0 (Kd.N k33 33 wc w.heap.size (fun _ => True) (.slice Ao11 t162.length co11) t162) ∧ Aside0 (Below w.heap.size w wc))
                    case first => as_aux_lemma =>
                      have H := HC25.out
                      clear HC25
                      by_cases c26 : (wrap64 (x5_2 + 1)) < (t162.length : Int)
                      · rw [if_pos c26] at H
                        have c26b0 : decide ((wrap64 (x5_2 + 1)) < (t162.length : Int)) = true := decide_eq_true c26
                        clear c26
                        (first | rw [c26b0] | (simp only [i64_w, i32_w]; rw [c26b0]) | skip)
                        obtain ⟨ji27, hji27⟩ : ∃ j_ : Int, (wrap64 (x5_2 + 1)) = j_ := ⟨_, rfl⟩
                        replace H : (if 0 ≤ (ji27) then (hatstandlaw3_GlyphSpoils.j3 kj9 a0 t162 x5_2 ((rd_T33 t162 (ji27)).f3)) else (none)) = some r := by first | (rw [hji27] at H; exact H) | (simp only [hji27] at H ⊢; exact H)
                        (try rw [hji27] at c26b0)
                        have hji27w : (IntKind.i64.wrap (x5_2 + 1)) = ji27 := (i64_w _).trans hji27
                        by_cases c28 : 0 ≤ (ji27)
                        · rw [if_pos c28] at H
                          have c28b0 : decide (0 ≤ (ji27)) = true := decide_eq_true c28
                          clear c28
                          have H' := Aside0.mk H
                          clear H
                          have p173 : 0 ≤ ((ji27) : Int) := of_decide_eq_true (by first | (with_reducible assumption) | assumption)
                          have q173 : (ji27) < (t162.length : Int) := of_decide_eq_true (by first | (with_reducible assumption) | assumption)
                          obtain ⟨ad173, A173_1, c173_1, e173, hx173_0, hx173_1, hx173_2, hx173_3, hl173_1, hi173_1⟩ := at_T33 (Kd.N_reads' HO_4.out).2.2 (ji27) p173 q173
                          cases e173
                          obtain ⟨ce173, hce173, hMe173, hcc173⟩ := Kd.N_get HO_4.out z33 (ji27) p173 (by first | exact q173 | exact of_decide_eq_true (by first | (with_reducible assumption) | assumption) | (have e_ := (Kd.N_reads' HO_4.out).1; omega))
                          obtain ⟨ua173_1, uc173_1, rfl, ul173_1, ge173_1⟩ := k33_openF hMe173
                          have hv173_1 := hcc173 1 _ rfl
                          rw [add_field _ _ 1 (by omega)] at hv173_1
                          replace hv173_1 := Option.some.inj (hv173_1.symm.trans hx173_1)
                          injection hv173_1 with hva_ hvn_ hvc_
                          rw [hva_] at ge173_1
                          rw [hvc_] at ul173_1
                          have HL173_1 := Aside0.mk (show Kd.V (Kd.int .u64) 51 _ w.heap.size _ _ ((rd_T33 t162 (ji27)).f1) from Kd.V_mk ul173_1 ge173_1)
                          clear hva_ hvn_ hvc_ ge173_1 ul173_1
                          clear hcc173 hce173
                          have HR173_1 := Aside0.mk hi173_1
                          have HC173_1 := Aside0.mk hl173_1
                          clear hi173_1 hl173_1
                          replace p173 := eq_true p173
                          replace q173 := eq_true q173
                          go_wp2
                          repeat (go_quiet (fail); try go_wp2)
                          go_meet
                          case rel => exact ⟨_, ((rd_T33 t162 (ji27)).f3), (by first | rfl | (simp; done) | (simp only [← hji27] <;> (first | rfl | simp)) | (simp [*]; done)), H', ⟨by have := HJ2.out; have := HK2.out; have := HJ9.out; first | omega | exact Nat.le_refl _⟩, ⟨by (with_reducible repeat (first | apply Kd.N_alloc | apply Kd.N_drewN | apply Kd.N_drew)); exact HO_4.out⟩, ⟨by repeat (first | (with_reducible first | exact HB.out | apply below_alloc | apply pw_below_drewN | apply below_drew1) | exact HB.out)⟩⟩
                        · rw [if_neg c28] at H
                          exact absurd H (by simp)
                      · rw [if_neg c26] at H
                        have c26b0 : decide ((wrap64 (x5_2 + 1)) < (t162.length : Int)) = false := decide_eq_false c26
                        clear c26
                        (first | rw [c26b0] | (simp only [i64_w, i32_w]; rw [c26b0]) | skip)
                        have H' := Aside0.mk H
                        clear H
                        go_wp2
                        repeat (go_quiet (fail); try go_wp2)
                        go_meet
                        case rel => exact ⟨_, ((a0.size : Int)), (by first | rfl | (simp; done) | (simp [*]; done) | exact isEmpty_bne _), H', ⟨by have := HJ2.out; have := HK2.out; have := HJ9.out; first | omega | exact Nat.le_refl _⟩, ⟨by (with_reducible repeat (first | apply Kd.N_alloc | apply Kd.N_drewN | apply Kd.N_drew)); exact HO_4.out⟩, ⟨by repeat (first | (with_reducible first | exact HB.out | apply below_alloc | apply pw_below_drewN | apply below_drew1) | exact HB.out)⟩⟩
                    case rest => as_aux_lemma =>
                      clear HC25
                      try clear c1
                      try clear p1
                      try clear q1
                      try clear hx1
                      try clear c2
                      try clear p2
                      try clear q2
                      try clear p6
                      try clear c12
                      try clear c15
                      try clear c15b0
                      try clear c16
                      try clear p16
                      try clear q16
                      try clear hx16
                      try clear c17
                      try clear p17
                      try clear q17
                      try clear hx17
                      try clear c18
                      try clear c19
                      try clear c19b0
                      try clear q20
                      try clear c21
                      try clear q22
                      try clear c23
                      try clear c24
                      try clear c26
                      try clear c26b0
                      try clear c28
                      try clear c28b0
                      try clear hx165_0
                      try clear hx165_1
                      try clear hx165_2
                      try clear hx165_3
                      try clear hx166_0
                      try clear hx166_1
                      try clear hx166_2
                      try clear hx166_3
                      try clear hx167_0
                      try clear hx167_1
                      try clear hx167_2
                      try clear hx167_3
                      try clear hx168_0
                      try clear hx168_1
                      try clear hx168_2
                      try clear hx168_3
                      try clear hx169_0
                      try clear hx169_1
                      try clear hx169_2
                      try clear hx169_3
                      try clear hx170_0
                      try clear hx170_1
                      try clear hx170_2
                      try clear hx170_3
                      try clear hx171_0
                      try clear hx171_1
                      try clear hx171_2
                      try clear hx171_3
                      try clear hx172_0
                      try clear hx172_1
                      try clear hx172_2
                      try clear hx172_3
                      try clear hx173_0
                      try clear hx173_1
                      try clear hx173_2
                      try clear hx173_3
                      try clear p1
                      try clear p16
                      try clear p165
                      try clear p166
                      try clear p167
                      try clear p168
                      try clear p169
                      try clear p17
                      try clear p170
                      try clear p171
                      try clear p172
                      try clear p173
                      try clear p2
                      try clear q1
                      try clear q16
                      try clear q165
                      try clear q166
                      try clear q167
                      try clear q168
                      try clear q169
                      try clear q17
                      try clear q170
                      try clear q171
                      try clear q172
                      try clear q173
                      try clear q2
                      try clear q20
                      try clear q22
                      obtain ⟨kq, x6_24, rfl, HA, HJ24, HO_4, HB⟩ := hcut
                      cases kq with
                      | zero => exact absurd HA.out (by simp [hatstandlaw3_GlyphSpoils.j3])
                      | succ kj24 =>
                        have H := HA.out
                        clear HA
                        simp only [hatstandlaw3_GlyphSpoils.j3] at H
                        by_cases c29 : 0 ≤ x5_2
                        · rw [if_pos c29] at H
                          have c29b0 : decide (0 ≤ x5_2) = true := decide_eq_true c29
                          clear c29
                          by_cases c30 : x5_2 < (t162.length : Int)
                          · rw [if_pos c30] at H
                            have c30b0 : decide (x5_2 < (t162.length : Int)) = true := decide_eq_true c30
                            clear c30
                            by_cases c31 : 0 ≤ ((rd_T33 t162 x5_2).f3)
                            · rw [if_pos c31] at H
                              have c31b0 := eq_true c31
                              have c31b1 : decide (0 ≤ ((rd_T33 t162 x5_2).f3)) = true := decide_eq_true c31
                              clear c31
                              by_cases c32 : ((rd_T33 t162 x5_2).f3) ≤ x6_24
                              · rw [if_pos c32] at H
                                have c32b0 := eq_true c32
                                have c32b1 : decide (((rd_T33 t162 x5_2).f3) ≤ x6_24) = true := decide_eq_true c32
                                clear c32
                                by_cases c33 : x6_24 ≤ (a0.size : Int)
                                · rw [if_pos c33] at H
                                  have c33b0 := eq_true c33
                                  have c33b1 : decide (x6_24 ≤ (a0.size : Int)) = true := decide_eq_true c33
                                  clear c33
                                  replace H := Option.bind_eq_some_iff.mp H
                                  obtain ⟨t175, A340, H⟩ := H
                                  replace H : (if (t175.length : Int) = 1 then (if 0 < (t175.length : Int) then (if ((rd_T33 t175 0).f0) = ((rd_T33 t162 x5_2).f0) then (if (((rd_T33 t175 0).f2) != ((rd_T33 t162 x5_2).f2)) = true then (hatstandlaw3_GlyphSpoils.j4 kj24 a0 t162 x5_2 true) else (if ((rd_T33 t175 0).f3) = 0 then (hatstandlaw3_GlyphSpoils.j4 kj24 a0 t162 x5_2 ((((rd_T33 t175 0).f1).length : Int) != (((rd_T33 t162 x5_2).f1).length : Int))) else (hatstandlaw3_GlyphSpoils.j4 kj24 a0 t162 x5_2 true))) else (hatstandlaw3_GlyphSpoils.j4 kj24 a0 t162 x5_2 true)) else (none)) else (hatstandlaw3_GlyphSpoils.j4 kj24 a0 t162 x5_2 true)) = some r := H
                                  have A34 := Aside0.mk A340
                                  clear A340
                                  have HC35 := Aside0.mk H
                                  clear H
                                  have p174 : 0 ≤ (x5_2 : Int) := of_decide_eq_true (by first | (with_reducible assumption) | assumption)
                                  have q174 : x5_2 < (t162.length : Int) := of_decide_eq_true (by first | (with_reducible assumption) | assumption)
                                  obtain ⟨ad174, A174_1, c174_1, e174, hx174_0, hx174_1, hx174_2, hx174_3, hl174_1, hi174_1⟩ := at_T33 (Kd.N_reads' HO_4.out).2.2 x5_2 p174 q174
                                  cases e174
                                  obtain ⟨ce174, hce174, hMe174, hcc174⟩ := Kd.N_get HO_4.out z33 x5_2 p174 (by first | exact q174 | exact of_decide_eq_true (by first | (with_reducible assumption) | assumption) | (have e_ := (Kd.N_reads' HO_4.out).1; omega))
                                  obtain ⟨ua174_1, uc174_1, rfl, ul174_1, ge174_1⟩ := k33_openF hMe174
                                  have hv174_1 := hcc174 1 _ rfl
                                  rw [add_field _ _ 1 (by omega)] at hv174_1
                                  replace hv174_1 := Option.some.inj (hv174_1.symm.trans hx174_1)
                                  injection hv174_1 with hva_ hvn_ hvc_
                                  rw [hva_] at ge174_1
                                  rw [hvc_] at ul174_1
                                  have HL174_1 := Aside0.mk (show Kd.V (Kd.int .u64) 51 _ w.heap.size _ _ ((rd_T33 t162 x5_2).f1) from Kd.V_mk ul174_1 ge174_1)
                                  clear hva_ hvn_ hvc_ ge174_1 ul174_1
                                  clear hcc174 hce174
                                  have HR174_1 := Aside0.mk hi174_1
                                  have HC174_1 := Aside0.mk hl174_1
                                  clear hi174_1 hl174_1
                                  replace p174 := eq_true p174
                                  replace q174 := eq_true q174
                                  go_upto_region 14 with (first | (go_at_call 12; (with_reducible refine (glyph_Parse.calls (a0.extract (((rd_T33 t162 x5_2).f3) : Int).toNat (x6_24 : Int).toNat) t175 _ ?side1 A34.out).mono ?_); (case side1 => exact GG_at hG (by repeat (first | (with_reducible first | exact HB.out | apply below_alloc | apply pw_below_drewN | apply below_drew1) | exact HB.out))); rintro e w36 ⟨v176, rfl, ho0, hb⟩; have n0_ := Aside0.mk (Kd.N_elder' (by (with_reducible repeat (first | apply Kd.N_alloc | apply Kd.N_drewN | apply Kd.N_drew)); exact HO_4.out) (Kd.N_base ho0) hb); have n1_ := Aside0.mk (Kd.V_elder' (by (with_reducible repeat (first | apply Kd.V_alloc | apply Kd.V_drewN | apply Kd.V_drew)); exact HL174_1.out) (Kd.N_base ho0) hb); have n2_ := Aside0.mk (Kd.N_lower (Kd.N_mono (ok' := fun k_ => some k_ ≠ (.slice (some ad174) t162.length co11 : Value).ownBlock) ho0 (fun k_ hk_ => (Kd.fresh' (Kd.N_lt (by (with_reducible repeat (first | apply Kd.N_alloc | apply Kd.N_drewN | apply Kd.N_drew)); exact HO_4.out)) k_ hk_))) (below_size (by repeat (first | (with_reducible first | exact HB.out | apply below_alloc | apply pw_below_drewN | apply below_drew1) | exact HB.out)))); have n3_ := Aside0.mk (Kd.C_below (by repeat (first | (with_reducible exact HR174_1.out) | (with_reducible refine Kd.C_alloc ?_ _) | (with_reducible refine Kd.C_drewN ?_ _) | (with_reducible refine Kd.C_drew ?_) | exact HR174_1.out)) hb); have n4_ := Aside0.mk (below_step (by repeat (first | (with_reducible first | exact HB.out | apply below_alloc | apply pw_below_drewN | apply below_drew1) | exact HB.out)) hb); clear HO_4; clear HL174_1; clear HR174_1; clear HB; have HO_4 := n0_; have HL174_1 := n1_; have HO177 := n2_; have HR174_1 := n3_; have HB := n4_; clear n0_ n1_ n2_ n3_ n4_; (try clear hb); (try clear hb2); (try clear hk); (try clear hi); (try clear ho0)))
                                  repeat (go_quiet (first | (go_at_call 12; (with_reducible refine (glyph_Parse.calls (a0.extract (((rd_T33 t162 x5_2).f3) : Int).toNat (x6_24 : Int).toNat) t175 _ ?side1 A34.out).mono ?_); (case side1 => exact GG_at hG (by repeat (first | (with_reducible first | exact HB.out | apply below_alloc | apply pw_below_drewN | apply below_drew1) | exact HB.out))); rintro e w36 ⟨v176, rfl, ho0, hb⟩; have n0_ := Aside0.mk (Kd.N_elder' (by (with_reducible repeat (first | apply Kd.N_alloc | apply Kd.N_drewN | apply Kd.N_drew)); exact HO_4.out) (Kd.N_base ho0) hb); have n1_ := Aside0.mk (Kd.V_elder' (by (with_reducible repeat (first | apply Kd.V_alloc | apply Kd.V_drewN | apply Kd.V_drew)); exact HL174_1.out) (Kd.N_base ho0) hb); have n2_ := Aside0.mk (Kd.N_lower (Kd.N_mono (ok' := fun k_ => some k_ ≠ (.slice (some ad174) t162.length co11 : Value).ownBlock) ho0 (fun k_ hk_ => (Kd.fresh' (Kd.N_lt (by (with_reducible repeat (first | apply Kd.N_alloc | apply Kd.N_drewN | apply Kd.N_drew)); exact HO_4.out)) k_ hk_))) (below_size (by repeat (first | (with_reducible first | exact HB.out | apply below_alloc | apply pw_below_drewN | apply below_drew1) | exact HB.out)))); have n3_ := Aside0.mk (Kd.C_below (by repeat (first | (with_reducible exact HR174_1.out) | (with_reducible refine Kd.C_alloc ?_ _) | (with_reducible refine Kd.C_drewN ?_ _) | (with_reducible refine Kd.C_drew ?_) | exact HR174_1.out)) hb); have n4_ := Aside0.mk (below_step (by repeat (first | (with_reducible first | exact HB.out | apply below_alloc | apply pw_below_drewN | apply below_drew1) | exact HB.out)) hb); clear HO_4; clear HL174_1; clear HR174_1; clear HB; have HO_4 := n0_; have HL174_1 := n1_; have HO177 := n2_; have HR174_1 := n3_; have HB := n4_; clear n0_ n1_ n2_ n3_ n4_; (try clear hb); (try clear hb2); (try clear hk); (try clear hi); (try clear ho0))); go_upto_region 14 with (first | (go_at_call 12; (with_reducible refine (glyph_Parse.calls (a0.extract (((rd_T33 t162 x5_2).f3) : Int).toNat (x6_24 : Int).toNat) t175 _ ?side1 A34.out).mono ?_); (case side1 => exact GG_at hG (by repeat (first | (with_reducible first | exact HB.out | apply below_alloc | apply pw_below_drewN | apply below_drew1) | exact HB.out))); rintro e w36 ⟨v176, rfl, ho0, hb⟩; have n0_ := Aside0.mk (Kd.N_elder' (by (with_reducible repeat (first | apply Kd.N_alloc | apply Kd.N_drewN | apply Kd.N_drew)); exact HO_4.out) (Kd.N_base ho0) hb); have n1_ := Aside0.mk (Kd.V_elder' (by (with_reducible repeat (first | apply Kd.V_alloc | apply Kd.V_drewN | apply Kd.V_drew)); exact HL174_1.out) (Kd.N_base ho0) hb); have n2_ := Aside0.mk (Kd.N_lower (Kd.N_mono (ok' := fun k_ => some k_ ≠ (.slice (some ad174) t162.length co11 : Value).ownBlock) ho0 (fun k_ hk_ => (Kd.fresh' (Kd.N_lt (by (with_reducible repeat (first | apply Kd.N_alloc | apply Kd.N_drewN | apply Kd.N_drew)); exact HO_4.out)) k_ hk_))) (below_size (by repeat (first | (with_reducible first | exact HB.out | apply below_alloc | apply pw_below_drewN | apply below_drew1) | exact HB.out)))); have n3_ := Aside0.mk (Kd.C_below (by repeat (first | (with_reducible exact HR174_1.out) | (with_reducible refine Kd.C_alloc ?_ _) | (with_reducible refine Kd.C_drewN ?_ _) | (with_reducible refine Kd.C_drew ?_) | exact HR174_1.out)) hb); have n4_ := Aside0.mk (below_step (by repeat (first | (with_reducible first | exact HB.out | apply below_alloc | apply pw_below_drewN | apply below_drew1) | exact HB.out)) hb); clear HO_4; clear HL174_1; clear HR174_1; clear HB; have HO_4 := n0_; have HL174_1 := n1_; have HO177 := n2_; have HR174_1 := n3_; have HB := n4_; clear n0_ n1_ n2_ n3_ n4_; (try clear hb); (try clear hb2); (try clear hk); (try clear hi); (try clear ho0))))
                                  (try simp only [Act.put, List.setIfInBounds_toArray, List.set_cons_zero, List.set_cons_succ])
                                  go_cut [145] (fun v145 wc => ∃ (kq : Nat) (x145_34 : Bool), v145 = .bool x145_34 ∧ Aside0 (hatstandlaw3_GlyphSpoils.j4 kq a0 t162 x5_2 x145_34 = some r) ∧ Aside0 (kq ≤ kj24) ∧ Aside0 (Kd.N k33 33 wc w.heap.size (fun _ => True) (.slice (some ad174) t162.length co11) t162) ∧ Aside0 (Kd.C (Kd.int .u64) wc A174_1 ((rd_T33 t162 x5_2).f1).length ((rd_T33 t162 x5_2).f1)) ∧ Aside0 (Below w.heap.size w wc))
                                  case first => as_aux_lemma =>
                                    have H := HC35.out
                                    clear HC35
                                    by_cases c37 : (t175.length : Int) = 1
                                    · rw [if_pos c37] at H
                                      have c37b0 : ((t175.length : Int) == 1) = true := beq_iff_eq.mpr c37
                                      have c37b1 : ((t175.length : Int) != 1) = false := bne_eq_false_iff_eq.mpr c37
                                      clear c37
                                      (first | rw [c37b0] | (simp only [i64_w, i32_w]; rw [c37b0]) | skip)
                                      by_cases c38 : 0 < (t175.length : Int)
                                      · rw [if_pos c38] at H
                                        have c38b0 : decide (0 < (t175.length : Int)) = true := decide_eq_true c38
                                        have c38b1 : decide (0 < t175.length) = true := decide_eq_true (by omega)
                                        clear c38
                                        by_cases c39 : ((rd_T33 t175 0).f0) = ((rd_T33 t162 x5_2).f0)
                                        · rw [if_pos c39] at H
                                          have c39b0 : (((rd_T33 t175 0).f0) == ((rd_T33 t162 x5_2).f0)) = true := beq_iff_eq.mpr c39
                                          have c39b1 : (((rd_T33 t175 0).f0) != ((rd_T33 t162 x5_2).f0)) = false := bne_eq_false_iff_eq.mpr c39
                                          clear c39
                                          by_cases c40 : (((rd_T33 t175 0).f2) != ((rd_T33 t162 x5_2).f2)) = true
                                          · rw [if_pos c40] at H
                                            have c40b0 : (((rd_T33 t175 0).f2) != ((rd_T33 t162 x5_2).f2)) = true := c40
                                            (try (have c40b1 : decide (((rd_T33 t175 0).f2) = ((rd_T33 t162 x5_2).f2)) = false := by simpa using c40))
                                            (try (have c40b2 : (((rd_T33 t175 0).f2) == ((rd_T33 t162 x5_2).f2)) = false := by simpa using c40))
                                            (try (have c40b3 : ¬ (((rd_T33 t175 0).f2) = ((rd_T33 t162 x5_2).f2)) := by simpa using c40))
                                            clear c40
                                            have H' := Aside0.mk H
                                            clear H
                                            obtain ⟨Ao41, co41, eo41⟩ := Kd.N_slice HO177.out
                                            subst eo41
                                            have p178 : 0 ≤ (0 : Int) := (by omega)
                                            have q178 : 0 < (t175.length : Int) := of_decide_eq_true (by first | (with_reducible assumption) | assumption)
                                            obtain ⟨ad178, A178_1, c178_1, e178, hx178_0, hx178_1, hx178_2, hx178_3, hl178_1, hi178_1⟩ := at_T33 (Kd.N_reads' HO177.out).2.2 0 p178 q178
                                            cases e178
                                            obtain ⟨ce178, hce178, hMe178, hcc178⟩ := Kd.N_get HO177.out z33 0 p178 (by first | exact q178 | exact of_decide_eq_true (by first | (with_reducible assumption) | assumption) | (have e_ := (Kd.N_reads' HO177.out).1; omega))
                                            obtain ⟨ua178_1, uc178_1, rfl, ul178_1, ge178_1⟩ := k33_openF hMe178
                                            have hv178_1 := hcc178 1 _ rfl
                                            rw [add_field _ _ 1 (by omega)] at hv178_1
                                            replace hv178_1 := Option.some.inj (hv178_1.symm.trans hx178_1)
                                            injection hv178_1 with hva_ hvn_ hvc_
                                            rw [hva_] at ge178_1
                                            rw [hvc_] at ul178_1
                                            have HL178_1 := Aside0.mk (show Kd.V (Kd.int .u64) 51 _ w.heap.size _ _ ((rd_T33 t175 0).f1) from Kd.V_mk ul178_1 ge178_1)
                                            clear hva_ hvn_ hvc_ ge178_1 ul178_1
                                            clear hcc178 hce178
                                            have qi178 : (0 < t175.length) = True := eq_true (by omega)
                                            (try rw [show ((0 : Int)).toNat = 0 from rfl] at hx178_0)
                                            (try rw [show 0 * 4 = 0 from rfl] at hx178_0)
                                            (try rw [Addr.add_zero'] at hx178_0)
                                            (try rw [show ((0 : Int)).toNat = 0 from rfl] at hx178_1)
                                            (try rw [show 0 * 4 = 0 from rfl] at hx178_1)
                                            (try rw [Addr.add_zero'] at hx178_1)
                                            (try rw [show ((0 : Int)).toNat = 0 from rfl] at hx178_2)
                                            (try rw [show 0 * 4 = 0 from rfl] at hx178_2)
                                            (try rw [Addr.add_zero'] at hx178_2)
                                            (try rw [show ((0 : Int)).toNat = 0 from rfl] at hx178_3)
                                            (try rw [show 0 * 4 = 0 from rfl] at hx178_3)
                                            (try rw [Addr.add_zero'] at hx178_3)
                                            have HR178_1 := Aside0.mk hi178_1
                                            have HC178_1 := Aside0.mk hl178_1
                                            clear hi178_1 hl178_1
                                            replace p178 := eq_true p178
                                            replace q178 := eq_true q178
                                            have p179 : 0 ≤ (x5_2 : Int) := of_decide_eq_true (by first | (with_reducible assumption) | assumption)
                                            have q179 : x5_2 < (t162.length : Int) := of_decide_eq_true (by first | (with_reducible assumption) | assumption)
                                            obtain ⟨ad179, A179_1, c179_1, e179, hx179_0, hx179_1, hx179_2, hx179_3, hl179_1, hi179_1⟩ := at_T33 (Kd.N_reads' HO_4.out).2.2 x5_2 p179 q179
                                            obtain rfl : ad174 = ad179 := (by injection e179)
                                            obtain ⟨ce179, hce179, hMe179, hcc179⟩ := Kd.N_get HO_4.out z33 x5_2 p179 (by first | exact q179 | exact of_decide_eq_true (by first | (with_reducible assumption) | assumption) | (have e_ := (Kd.N_reads' HO_4.out).1; omega))
                                            obtain ⟨ua179_1, uc179_1, rfl, ul179_1, ge179_1⟩ := k33_openF hMe179
                                            have hv179_1 := hcc179 1 _ rfl
                                            rw [add_field _ _ 1 (by omega)] at hv179_1
                                            replace hv179_1 := Option.some.inj (hv179_1.symm.trans hx179_1)
                                            injection hv179_1 with hva_ hvn_ hvc_
                                            rw [hva_] at ge179_1
                                            rw [hvc_] at ul179_1
                                            have HL179_1 := Aside0.mk (show Kd.V (Kd.int .u64) 51 _ w.heap.size _ _ ((rd_T33 t162 x5_2).f1) from Kd.V_mk ul179_1 ge179_1)
                                            clear hva_ hvn_ hvc_ ge179_1 ul179_1
                                            clear hcc179 hce179
                                            have HR179_1 := Aside0.mk hi179_1
                                            have HC179_1 := Aside0.mk hl179_1
                                            clear hi179_1 hl179_1
                                            replace p179 := eq_true p179
                                            replace q179 := eq_true q179
                                            have p180 : 0 ≤ (0 : Int) := (by omega)
                                            have q180 : 0 < (t175.length : Int) := of_decide_eq_true (by first | (with_reducible assumption) | assumption)
                                            obtain ⟨ad180, A180_1, c180_1, e180, hx180_0, hx180_1, hx180_2, hx180_3, hl180_1, hi180_1⟩ := at_T33 (Kd.N_reads' HO177.out).2.2 0 p180 q180
                                            obtain rfl : ad178 = ad180 := (by injection e180)
                                            obtain ⟨ce180, hce180, hMe180, hcc180⟩ := Kd.N_get HO177.out z33 0 p180 (by first | exact q180 | exact of_decide_eq_true (by first | (with_reducible assumption) | assumption) | (have e_ := (Kd.N_reads' HO177.out).1; omega))
                                            obtain ⟨ua180_1, uc180_1, rfl, ul180_1, ge180_1⟩ := k33_openF hMe180
                                            have hv180_1 := hcc180 1 _ rfl
                                            rw [add_field _ _ 1 (by omega)] at hv180_1
                                            replace hv180_1 := Option.some.inj (hv180_1.symm.trans hx180_1)
                                            injection hv180_1 with hva_ hvn_ hvc_
                                            rw [hva_] at ge180_1
                                            rw [hvc_] at ul180_1
                                            have HL180_1 := Aside0.mk (show Kd.V (Kd.int .u64) 51 _ w.heap.size _ _ ((rd_T33 t175 0).f1) from Kd.V_mk ul180_1 ge180_1)
                                            clear hva_ hvn_ hvc_ ge180_1 ul180_1
                                            clear hcc180 hce180
                                            have qi180 : (0 < t175.length) = True := eq_true (by omega)
                                            (try rw [show ((0 : Int)).toNat = 0 from rfl] at hx180_0)
                                            (try rw [show 0 * 4 = 0 from rfl] at hx180_0)
                                            (try rw [Addr.add_zero'] at hx180_0)
                                            (try rw [show ((0 : Int)).toNat = 0 from rfl] at hx180_1)
                                            (try rw [show 0 * 4 = 0 from rfl] at hx180_1)
                                            (try rw [Addr.add_zero'] at hx180_1)
                                            (try rw [show ((0 : Int)).toNat = 0 from rfl] at hx180_2)
                                            (try rw [show 0 * 4 = 0 from rfl] at hx180_2)
                                            (try rw [Addr.add_zero'] at hx180_2)
                                            (try rw [show ((0 : Int)).toNat = 0 from rfl] at hx180_3)
                                            (try rw [show 0 * 4 = 0 from rfl] at hx180_3)
                                            (try rw [Addr.add_zero'] at hx180_3)
                                            have HR180_1 := Aside0.mk hi180_1
                                            have HC180_1 := Aside0.mk hl180_1
                                            clear hi180_1 hl180_1
                                            replace p180 := eq_true p180
                                            replace q180 := eq_true q180
                                            have ea_ := Option.some.inj (hx178_1.symm.trans hx180_1)
                                            injection ea_ with ea_ en_ ec_
                                            subst ea_
                                            subst ec_
                                            clear en_
                                            have p181 : 0 ≤ (x5_2 : Int) := of_decide_eq_true (by first | (with_reducible assumption) | assumption)
                                            have q181 : x5_2 < (t162.length : Int) := of_decide_eq_true (by first | (with_reducible assumption) | assumption)
                                            obtain ⟨ad181, A181_1, c181_1, e181, hx181_0, hx181_1, hx181_2, hx181_3, hl181_1, hi181_1⟩ := at_T33 (Kd.N_reads' HO_4.out).2.2 x5_2 p181 q181
                                            obtain rfl : ad174 = ad181 := (by injection e181)
                                            obtain ⟨ce181, hce181, hMe181, hcc181⟩ := Kd.N_get HO_4.out z33 x5_2 p181 (by first | exact q181 | exact of_decide_eq_true (by first | (with_reducible assumption) | assumption) | (have e_ := (Kd.N_reads' HO_4.out).1; omega))
                                            obtain ⟨ua181_1, uc181_1, rfl, ul181_1, ge181_1⟩ := k33_openF hMe181
                                            have hv181_1 := hcc181 1 _ rfl
                                            rw [add_field _ _ 1 (by omega)] at hv181_1
                                            replace hv181_1 := Option.some.inj (hv181_1.symm.trans hx181_1)
                                            injection hv181_1 with hva_ hvn_ hvc_
                                            rw [hva_] at ge181_1
                                            rw [hvc_] at ul181_1
                                            have HL181_1 := Aside0.mk (show Kd.V (Kd.int .u64) 51 _ w.heap.size _ _ ((rd_T33 t162 x5_2).f1) from Kd.V_mk ul181_1 ge181_1)
                                            clear hva_ hvn_ hvc_ ge181_1 ul181_1
                                            clear hcc181 hce181
                                            have HR181_1 := Aside0.mk hi181_1
                                            have HC181_1 := Aside0.mk hl181_1
                                            clear hi181_1 hl181_1
                                            replace p181 := eq_true p181
                                            replace q181 := eq_true q181
                                            have ea_ := Option.some.inj (hx179_1.symm.trans hx181_1)
                                            injection ea_ with ea_ en_ ec_
                                            subst ea_
                                            subst ec_
                                            clear en_
                                            go_wp2
                                            repeat (go_quiet (fail); try go_wp2)
                                            go_meet
                                            case rel => exact ⟨_, (true), (by first | rfl | (simp; done) | (simp [*]; done) | exact isEmpty_bne _), H', ⟨by have := HJ2.out; have := HK2.out; have := HJ9.out; have := HJ24.out; first | omega | exact Nat.le_refl _⟩, ⟨by (with_reducible repeat (first | apply Kd.N_alloc | apply Kd.N_drewN | apply Kd.N_drew)); exact Kd.N_mono HO_4.out (fun _ hk => trivial)⟩, ⟨by repeat (first | (with_reducible exact HR174_1.out) | (with_reducible refine Kd.C_alloc ?_ _) | (with_reducible refine Kd.C_drewN ?_ _) | (with_reducible refine Kd.C_drew ?_) | exact HR174_1.out)⟩, ⟨by repeat (first | (with_reducible first | exact HB.out | apply below_alloc | apply pw_below_drewN | apply below_drew1) | exact HB.out)⟩⟩
                                          · rw [if_neg c40] at H
                                            have c40b0 : (((rd_T33 t175 0).f2) != ((rd_T33 t162 x5_2).f2)) = false := by simpa using c40
                                            (try (have c40b1 : decide (((rd_T33 t175 0).f2) = ((rd_T33 t162 x5_2).f2)) = true := by simpa using c40))
                                            (try (have c40b2 : (((rd_T33 t175 0).f2) == ((rd_T33 t162 x5_2).f2)) = true := by simpa using c40))
                                            clear c40
                                            by_cases c42 : ((rd_T33 t175 0).f3) = 0
                                            · rw [if_pos c42] at H
                                              have c42b0 : (((rd_T33 t175 0).f3) == 0) = true := beq_iff_eq.mpr c42
                                              have c42b1 : (((rd_T33 t175 0).f3) != 0) = false := bne_eq_false_iff_eq.mpr c42
                                              clear c42
                                              have H' := Aside0.mk H
                                              clear H
                                              obtain ⟨Ao43, co43, eo43⟩ := Kd.N_slice HO177.out
                                              subst eo43
                                              have p178 : 0 ≤ (0 : Int) := (by omega)
                                              have q178 : 0 < (t175.length : Int) := of_decide_eq_true (by first | (with_reducible assumption) | assumption)
                                              obtain ⟨ad178, A178_1, c178_1, e178, hx178_0, hx178_1, hx178_2, hx178_3, hl178_1, hi178_1⟩ := at_T33 (Kd.N_reads' HO177.out).2.2 0 p178 q178
                                              cases e178
                                              obtain ⟨ce178, hce178, hMe178, hcc178⟩ := Kd.N_get HO177.out z33 0 p178 (by first | exact q178 | exact of_decide_eq_true (by first | (with_reducible assumption) | assumption) | (have e_ := (Kd.N_reads' HO177.out).1; omega))
                                              obtain ⟨ua178_1, uc178_1, rfl, ul178_1, ge178_1⟩ := k33_openF hMe178
                                              have hv178_1 := hcc178 1 _ rfl
                                              rw [add_field _ _ 1 (by omega)] at hv178_1
                                              replace hv178_1 := Option.some.inj (hv178_1.symm.trans hx178_1)
                                              injection hv178_1 with hva_ hvn_ hvc_
                                              rw [hva_] at ge178_1
                                              rw [hvc_] at ul178_1
                                              have HL178_1 := Aside0.mk (show Kd.V (Kd.int .u64) 51 _ w.heap.size _ _ ((rd_T33 t175 0).f1) from Kd.V_mk ul178_1 ge178_1)
                                              clear hva_ hvn_ hvc_ ge178_1 ul178_1
                                              clear hcc178 hce178
                                              have qi178 : (0 < t175.length) = True := eq_true (by omega)
                                              (try rw [show ((0 : Int)).toNat = 0 from rfl] at hx178_0)
                                              (try rw [show 0 * 4 = 0 from rfl] at hx178_0)
                                              (try rw [Addr.add_zero'] at hx178_0)
                                              (try rw [show ((0 : Int)).toNat = 0 from rfl] at hx178_1)
                                              (try rw [show 0 * 4 = 0 from rfl] at hx178_1)
                                              (try rw [Addr.add_zero'] at hx178_1)
                                              (try rw [show ((0 : Int)).toNat = 0 from rfl] at hx178_2)
                                              (try rw [show 0 * 4 = 0 from rfl] at hx178_2)
                                              (try rw [Addr.add_zero'] at hx178_2)
                                              (try rw [show ((0 : Int)).toNat = 0 from rfl] at hx178_3)
                                              (try rw [show 0 * 4 = 0 from rfl] at hx178_3)
                                              (try rw [Addr.add_zero'] at hx178_3)
                                              have HR178_1 := Aside0.mk hi178_1
                                              have HC178_1 := Aside0.mk hl178_1
                                              clear hi178_1 hl178_1
                                              replace p178 := eq_true p178
                                              replace q178 := eq_true q178
                                              have p179 : 0 ≤ (x5_2 : Int) := of_decide_eq_true (by first | (with_reducible assumption) | assumption)
                                              have q179 : x5_2 < (t162.length : Int) := of_decide_eq_true (by first | (with_reducible assumption) | assumption)
                                              obtain ⟨ad179, A179_1, c179_1, e179, hx179_0, hx179_1, hx179_2, hx179_3, hl179_1, hi179_1⟩ := at_T33 (Kd.N_reads' HO_4.out).2.2 x5_2 p179 q179
                                              obtain rfl : ad174 = ad179 := (by injection e179)
                                              obtain ⟨ce179, hce179, hMe179, hcc179⟩ := Kd.N_get HO_4.out z33 x5_2 p179 (by first | exact q179 | exact of_decide_eq_true (by first | (with_reducible assumption) | assumption) | (have e_ := (Kd.N_reads' HO_4.out).1; omega))
                                              obtain ⟨ua179_1, uc179_1, rfl, ul179_1, ge179_1⟩ := k33_openF hMe179
                                              have hv179_1 := hcc179 1 _ rfl
                                              rw [add_field _ _ 1 (by omega)] at hv179_1
                                              replace hv179_1 := Option.some.inj (hv179_1.symm.trans hx179_1)
                                              injection hv179_1 with hva_ hvn_ hvc_
                                              rw [hva_] at ge179_1
                                              rw [hvc_] at ul179_1
                                              have HL179_1 := Aside0.mk (show Kd.V (Kd.int .u64) 51 _ w.heap.size _ _ ((rd_T33 t162 x5_2).f1) from Kd.V_mk ul179_1 ge179_1)
                                              clear hva_ hvn_ hvc_ ge179_1 ul179_1
                                              clear hcc179 hce179
                                              have HR179_1 := Aside0.mk hi179_1
                                              have HC179_1 := Aside0.mk hl179_1
                                              clear hi179_1 hl179_1
                                              replace p179 := eq_true p179
                                              replace q179 := eq_true q179
                                              have p180 : 0 ≤ (0 : Int) := (by omega)
                                              have q180 : 0 < (t175.length : Int) := of_decide_eq_true (by first | (with_reducible assumption) | assumption)
                                              obtain ⟨ad180, A180_1, c180_1, e180, hx180_0, hx180_1, hx180_2, hx180_3, hl180_1, hi180_1⟩ := at_T33 (Kd.N_reads' HO177.out).2.2 0 p180 q180
                                              obtain rfl : ad178 = ad180 := (by injection e180)
                                              obtain ⟨ce180, hce180, hMe180, hcc180⟩ := Kd.N_get HO177.out z33 0 p180 (by first | exact q180 | exact of_decide_eq_true (by first | (with_reducible assumption) | assumption) | (have e_ := (Kd.N_reads' HO177.out).1; omega))
                                              obtain ⟨ua180_1, uc180_1, rfl, ul180_1, ge180_1⟩ := k33_openF hMe180
                                              have hv180_1 := hcc180 1 _ rfl
                                              rw [add_field _ _ 1 (by omega)] at hv180_1
                                              replace hv180_1 := Option.some.inj (hv180_1.symm.trans hx180_1)
                                              injection hv180_1 with hva_ hvn_ hvc_
                                              rw [hva_] at ge180_1
                                              rw [hvc_] at ul180_1
                                              have HL180_1 := Aside0.mk (show Kd.V (Kd.int .u64) 51 _ w.heap.size _ _ ((rd_T33 t175 0).f1) from Kd.V_mk ul180_1 ge180_1)
                                              clear hva_ hvn_ hvc_ ge180_1 ul180_1
                                              clear hcc180 hce180
                                              have qi180 : (0 < t175.length) = True := eq_true (by omega)
                                              (try rw [show ((0 : Int)).toNat = 0 from rfl] at hx180_0)
                                              (try rw [show 0 * 4 = 0 from rfl] at hx180_0)
                                              (try rw [Addr.add_zero'] at hx180_0)
                                              (try rw [show ((0 : Int)).toNat = 0 from rfl] at hx180_1)
                                              (try rw [show 0 * 4 = 0 from rfl] at hx180_1)
                                              (try rw [Addr.add_zero'] at hx180_1)
                                              (try rw [show ((0 : Int)).toNat = 0 from rfl] at hx180_2)
                                              (try rw [show 0 * 4 = 0 from rfl] at hx180_2)
                                              (try rw [Addr.add_zero'] at hx180_2)
                                              (try rw [show ((0 : Int)).toNat = 0 from rfl] at hx180_3)
                                              (try rw [show 0 * 4 = 0 from rfl] at hx180_3)
                                              (try rw [Addr.add_zero'] at hx180_3)
                                              have HR180_1 := Aside0.mk hi180_1
                                              have HC180_1 := Aside0.mk hl180_1
                                              clear hi180_1 hl180_1
                                              replace p180 := eq_true p180
                                              replace q180 := eq_true q180
                                              have ea_ := Option.some.inj (hx178_1.symm.trans hx180_1)
                                              injection ea_ with ea_ en_ ec_
                                              subst ea_
                                              subst ec_
                                              clear en_
                                              have p181 : 0 ≤ (x5_2 : Int) := of_decide_eq_true (by first | (with_reducible assumption) | assumption)
                                              have q181 : x5_2 < (t162.length : Int) := of_decide_eq_true (by first | (with_reducible assumption) | assumption)
                                              obtain ⟨ad181, A181_1, c181_1, e181, hx181_0, hx181_1, hx181_2, hx181_3, hl181_1, hi181_1⟩ := at_T33 (Kd.N_reads' HO_4.out).2.2 x5_2 p181 q181
                                              obtain rfl : ad174 = ad181 := (by injection e181)
                                              obtain ⟨ce181, hce181, hMe181, hcc181⟩ := Kd.N_get HO_4.out z33 x5_2 p181 (by first | exact q181 | exact of_decide_eq_true (by first | (with_reducible assumption) | assumption) | (have e_ := (Kd.N_reads' HO_4.out).1; omega))
                                              obtain ⟨ua181_1, uc181_1, rfl, ul181_1, ge181_1⟩ := k33_openF hMe181
                                              have hv181_1 := hcc181 1 _ rfl
                                              rw [add_field _ _ 1 (by omega)] at hv181_1
                                              replace hv181_1 := Option.some.inj (hv181_1.symm.trans hx181_1)
                                              injection hv181_1 with hva_ hvn_ hvc_
                                              rw [hva_] at ge181_1
                                              rw [hvc_] at ul181_1
                                              have HL181_1 := Aside0.mk (show Kd.V (Kd.int .u64) 51 _ w.heap.size _ _ ((rd_T33 t162 x5_2).f1) from Kd.V_mk ul181_1 ge181_1)
                                              clear hva_ hvn_ hvc_ ge181_1 ul181_1
                                              clear hcc181 hce181
                                              have HR181_1 := Aside0.mk hi181_1
                                              have HC181_1 := Aside0.mk hl181_1
                                              clear hi181_1 hl181_1
                                              replace p181 := eq_true p181
                                              replace q181 := eq_true q181
                                              have ea_ := Option.some.inj (hx179_1.symm.trans hx181_1)
                                              injection ea_ with ea_ en_ ec_
                                              subst ea_
                                              subst ec_
                                              clear en_
                                              have p182 : 0 ≤ (0 : Int) := (by omega)
                                              have q182 : 0 < (t175.length : Int) := of_decide_eq_true (by first | (with_reducible assumption) | assumption)
                                              obtain ⟨ad182, A182_1, c182_1, e182, hx182_0, hx182_1, hx182_2, hx182_3, hl182_1, hi182_1⟩ := at_T33 (Kd.N_reads' HO177.out).2.2 0 p182 q182
                                              obtain rfl : ad178 = ad182 := (by injection e182)
                                              obtain ⟨ce182, hce182, hMe182, hcc182⟩ := Kd.N_get HO177.out z33 0 p182 (by first | exact q182 | exact of_decide_eq_true (by first | (with_reducible assumption) | assumption) | (have e_ := (Kd.N_reads' HO177.out).1; omega))
                                              obtain ⟨ua182_1, uc182_1, rfl, ul182_1, ge182_1⟩ := k33_openF hMe182
                                              have hv182_1 := hcc182 1 _ rfl
                                              rw [add_field _ _ 1 (by omega)] at hv182_1
                                              replace hv182_1 := Option.some.inj (hv182_1.symm.trans hx182_1)
                                              injection hv182_1 with hva_ hvn_ hvc_
                                              rw [hva_] at ge182_1
                                              rw [hvc_] at ul182_1
                                              have HL182_1 := Aside0.mk (show Kd.V (Kd.int .u64) 51 _ w.heap.size _ _ ((rd_T33 t175 0).f1) from Kd.V_mk ul182_1 ge182_1)
                                              clear hva_ hvn_ hvc_ ge182_1 ul182_1
                                              clear hcc182 hce182
                                              have qi182 : (0 < t175.length) = True := eq_true (by omega)
                                              (try rw [show ((0 : Int)).toNat = 0 from rfl] at hx182_0)
                                              (try rw [show 0 * 4 = 0 from rfl] at hx182_0)
                                              (try rw [Addr.add_zero'] at hx182_0)
                                              (try rw [show ((0 : Int)).toNat = 0 from rfl] at hx182_1)
                                              (try rw [show 0 * 4 = 0 from rfl] at hx182_1)
                                              (try rw [Addr.add_zero'] at hx182_1)
                                              (try rw [show ((0 : Int)).toNat = 0 from rfl] at hx182_2)
                                              (try rw [show 0 * 4 = 0 from rfl] at hx182_2)
                                              (try rw [Addr.add_zero'] at hx182_2)
                                              (try rw [show ((0 : Int)).toNat = 0 from rfl] at hx182_3)
                                              (try rw [show 0 * 4 = 0 from rfl] at hx182_3)
                                              (try rw [Addr.add_zero'] at hx182_3)
                                              have HR182_1 := Aside0.mk hi182_1
                                              have HC182_1 := Aside0.mk hl182_1
                                              clear hi182_1 hl182_1
                                              replace p182 := eq_true p182
                                              replace q182 := eq_true q182
                                              have ea_ := Option.some.inj (hx178_1.symm.trans hx182_1)
                                              injection ea_ with ea_ en_ ec_
                                              subst ea_
                                              subst ec_
                                              clear en_
                                              have p183 : 0 ≤ (0 : Int) := (by omega)
                                              have q183 : 0 < (t175.length : Int) := of_decide_eq_true (by first | (with_reducible assumption) | assumption)
                                              obtain ⟨ad183, A183_1, c183_1, e183, hx183_0, hx183_1, hx183_2, hx183_3, hl183_1, hi183_1⟩ := at_T33 (Kd.N_reads' HO177.out).2.2 0 p183 q183
                                              obtain rfl : ad178 = ad183 := (by injection e183)
                                              obtain ⟨ce183, hce183, hMe183, hcc183⟩ := Kd.N_get HO177.out z33 0 p183 (by first | exact q183 | exact of_decide_eq_true (by first | (with_reducible assumption) | assumption) | (have e_ := (Kd.N_reads' HO177.out).1; omega))
                                              obtain ⟨ua183_1, uc183_1, rfl, ul183_1, ge183_1⟩ := k33_openF hMe183
                                              have hv183_1 := hcc183 1 _ rfl
                                              rw [add_field _ _ 1 (by omega)] at hv183_1
                                              replace hv183_1 := Option.some.inj (hv183_1.symm.trans hx183_1)
                                              injection hv183_1 with hva_ hvn_ hvc_
                                              rw [hva_] at ge183_1
                                              rw [hvc_] at ul183_1
                                              have HL183_1 := Aside0.mk (show Kd.V (Kd.int .u64) 51 _ w.heap.size _ _ ((rd_T33 t175 0).f1) from Kd.V_mk ul183_1 ge183_1)
                                              clear hva_ hvn_ hvc_ ge183_1 ul183_1
                                              clear hcc183 hce183
                                              have qi183 : (0 < t175.length) = True := eq_true (by omega)
                                              (try rw [show ((0 : Int)).toNat = 0 from rfl] at hx183_0)
                                              (try rw [show 0 * 4 = 0 from rfl] at hx183_0)
                                              (try rw [Addr.add_zero'] at hx183_0)
                                              (try rw [show ((0 : Int)).toNat = 0 from rfl] at hx183_1)
                                              (try rw [show 0 * 4 = 0 from rfl] at hx183_1)
                                              (try rw [Addr.add_zero'] at hx183_1)
                                              (try rw [show ((0 : Int)).toNat = 0 from rfl] at hx183_2)
                                              (try rw [show 0 * 4 = 0 from rfl] at hx183_2)
                                              (try rw [Addr.add_zero'] at hx183_2)
                                              (try rw [show ((0 : Int)).toNat = 0 from rfl] at hx183_3)
                                              (try rw [show 0 * 4 = 0 from rfl] at hx183_3)
                                              (try rw [Addr.add_zero'] at hx183_3)
                                              have HR183_1 := Aside0.mk hi183_1
                                              have HC183_1 := Aside0.mk hl183_1
                                              clear hi183_1 hl183_1
                                              replace p183 := eq_true p183
                                              replace q183 := eq_true q183
                                              have ea_ := Option.some.inj (hx178_1.symm.trans hx183_1)
                                              injection ea_ with ea_ en_ ec_
                                              subst ea_
                                              subst ec_
                                              clear en_
                                              have p184 : 0 ≤ (x5_2 : Int) := of_decide_eq_true (by first | (with_reducible assumption) | assumption)
                                              have q184 : x5_2 < (t162.length : Int) := of_decide_eq_true (by first | (with_reducible assumption) | assumption)
                                              obtain ⟨ad184, A184_1, c184_1, e184, hx184_0, hx184_1, hx184_2, hx184_3, hl184_1, hi184_1⟩ := at_T33 (Kd.N_reads' HO_4.out).2.2 x5_2 p184 q184
                                              obtain rfl : ad174 = ad184 := (by injection e184)
                                              obtain ⟨ce184, hce184, hMe184, hcc184⟩ := Kd.N_get HO_4.out z33 x5_2 p184 (by first | exact q184 | exact of_decide_eq_true (by first | (with_reducible assumption) | assumption) | (have e_ := (Kd.N_reads' HO_4.out).1; omega))
                                              obtain ⟨ua184_1, uc184_1, rfl, ul184_1, ge184_1⟩ := k33_openF hMe184
                                              have hv184_1 := hcc184 1 _ rfl
                                              rw [add_field _ _ 1 (by omega)] at hv184_1
                                              replace hv184_1 := Option.some.inj (hv184_1.symm.trans hx184_1)
                                              injection hv184_1 with hva_ hvn_ hvc_
                                              rw [hva_] at ge184_1
                                              rw [hvc_] at ul184_1
                                              have HL184_1 := Aside0.mk (show Kd.V (Kd.int .u64) 51 _ w.heap.size _ _ ((rd_T33 t162 x5_2).f1) from Kd.V_mk ul184_1 ge184_1)
                                              clear hva_ hvn_ hvc_ ge184_1 ul184_1
                                              clear hcc184 hce184
                                              have HR184_1 := Aside0.mk hi184_1
                                              have HC184_1 := Aside0.mk hl184_1
                                              clear hi184_1 hl184_1
                                              replace p184 := eq_true p184
                                              replace q184 := eq_true q184
                                              have ea_ := Option.some.inj (hx179_1.symm.trans hx184_1)
                                              injection ea_ with ea_ en_ ec_
                                              subst ea_
                                              subst ec_
                                              clear en_
                                              go_wp2
                                              repeat (go_quiet (fail); try go_wp2)
                                              go_meet
                                              case rel => exact ⟨_, (((((rd_T33 t175 0).f1).length : Int) != (((rd_T33 t162 x5_2).f1).length : Int))), (by first | rfl | (simp; done) | (simp [*]; done) | exact isEmpty_bne _), H', ⟨by have := HJ2.out; have := HK2.out; have := HJ9.out; have := HJ24.out; first | omega | exact Nat.le_refl _⟩, ⟨by (with_reducible repeat (first | apply Kd.N_alloc | apply Kd.N_drewN | apply Kd.N_drew)); exact Kd.N_mono HO_4.out (fun _ hk => trivial)⟩, ⟨by repeat (first | (with_reducible exact HR174_1.out) | (with_reducible refine Kd.C_alloc ?_ _) | (with_reducible refine Kd.C_drewN ?_ _) | (with_reducible refine Kd.C_drew ?_) | exact HR174_1.out)⟩, ⟨by repeat (first | (with_reducible first | exact HB.out | apply below_alloc | apply pw_below_drewN | apply below_drew1) | exact HB.out)⟩⟩
                                            · rw [if_neg c42] at H
                                              have c42b0 : (((rd_T33 t175 0).f3) == 0) = false := beq_eq_false_iff_ne.mpr c42
                                              have c42b1 : (((rd_T33 t175 0).f3) != 0) = true := bne_iff_ne.mpr c42
                                              have H' := Aside0.mk H
                                              clear H
                                              obtain ⟨Ao44, co44, eo44⟩ := Kd.N_slice HO177.out
                                              subst eo44
                                              have p178 : 0 ≤ (0 : Int) := (by omega)
                                              have q178 : 0 < (t175.length : Int) := of_decide_eq_true (by first | (with_reducible assumption) | assumption)
                                              obtain ⟨ad178, A178_1, c178_1, e178, hx178_0, hx178_1, hx178_2, hx178_3, hl178_1, hi178_1⟩ := at_T33 (Kd.N_reads' HO177.out).2.2 0 p178 q178
                                              cases e178
                                              obtain ⟨ce178, hce178, hMe178, hcc178⟩ := Kd.N_get HO177.out z33 0 p178 (by first | exact q178 | exact of_decide_eq_true (by first | (with_reducible assumption) | assumption) | (have e_ := (Kd.N_reads' HO177.out).1; omega))
                                              obtain ⟨ua178_1, uc178_1, rfl, ul178_1, ge178_1⟩ := k33_openF hMe178
                                              have hv178_1 := hcc178 1 _ rfl
                                              rw [add_field _ _ 1 (by omega)] at hv178_1
                                              replace hv178_1 := Option.some.inj (hv178_1.symm.trans hx178_1)
                                              injection hv178_1 with hva_ hvn_ hvc_
                                              rw [hva_] at ge178_1
                                              rw [hvc_] at ul178_1
                                              have HL178_1 := Aside0.mk (show Kd.V (Kd.int .u64) 51 _ w.heap.size _ _ ((rd_T33 t175 0).f1) from Kd.V_mk ul178_1 ge178_1)
                                              clear hva_ hvn_ hvc_ ge178_1 ul178_1
                                              clear hcc178 hce178
                                              have qi178 : (0 < t175.length) = True := eq_true (by omega)
                                              (try rw [show ((0 : Int)).toNat = 0 from rfl] at hx178_0)
                                              (try rw [show 0 * 4 = 0 from rfl] at hx178_0)
                                              (try rw [Addr.add_zero'] at hx178_0)
                                              (try rw [show ((0 : Int)).toNat = 0 from rfl] at hx178_1)
                                              (try rw [show 0 * 4 = 0 from rfl] at hx178_1)
                                              (try rw [Addr.add_zero'] at hx178_1)
                                              (try rw [show ((0 : Int)).toNat = 0 from rfl] at hx178_2)
                                              (try rw [show 0 * 4 = 0 from rfl] at hx178_2)
                                              (try rw [Addr.add_zero'] at hx178_2)
                                              (try rw [show ((0 : Int)).toNat = 0 from rfl] at hx178_3)
                                              (try rw [show 0 * 4 = 0 from rfl] at hx178_3)
                                              (try rw [Addr.add_zero'] at hx178_3)
                                              have HR178_1 := Aside0.mk hi178_1
                                              have HC178_1 := Aside0.mk hl178_1
                                              clear hi178_1 hl178_1
                                              replace p178 := eq_true p178
                                              replace q178 := eq_true q178
                                              have p179 : 0 ≤ (x5_2 : Int) := of_decide_eq_true (by first | (with_reducible assumption) | assumption)
                                              have q179 : x5_2 < (t162.length : Int) := of_decide_eq_true (by first | (with_reducible assumption) | assumption)
                                              obtain ⟨ad179, A179_1, c179_1, e179, hx179_0, hx179_1, hx179_2, hx179_3, hl179_1, hi179_1⟩ := at_T33 (Kd.N_reads' HO_4.out).2.2 x5_2 p179 q179
                                              obtain rfl : ad174 = ad179 := (by injection e179)
                                              obtain ⟨ce179, hce179, hMe179, hcc179⟩ := Kd.N_get HO_4.out z33 x5_2 p179 (by first | exact q179 | exact of_decide_eq_true (by first | (with_reducible assumption) | assumption) | (have e_ := (Kd.N_reads' HO_4.out).1; omega))
                                              obtain ⟨ua179_1, uc179_1, rfl, ul179_1, ge179_1⟩ := k33_openF hMe179
                                              have hv179_1 := hcc179 1 _ rfl
                                              rw [add_field _ _ 1 (by omega)] at hv179_1
                                              replace hv179_1 := Option.some.inj (hv179_1.symm.trans hx179_1)
                                              injection hv179_1 with hva_ hvn_ hvc_
                                              rw [hva_] at ge179_1
                                              rw [hvc_] at ul179_1
                                              have HL179_1 := Aside0.mk (show Kd.V (Kd.int .u64) 51 _ w.heap.size _ _ ((rd_T33 t162 x5_2).f1) from Kd.V_mk ul179_1 ge179_1)
                                              clear hva_ hvn_ hvc_ ge179_1 ul179_1
                                              clear hcc179 hce179
                                              have HR179_1 := Aside0.mk hi179_1
                                              have HC179_1 := Aside0.mk hl179_1
                                              clear hi179_1 hl179_1
                                              replace p179 := eq_true p179
                                              replace q179 := eq_true q179
                                              have p180 : 0 ≤ (0 : Int) := (by omega)
                                              have q180 : 0 < (t175.length : Int) := of_decide_eq_true (by first | (with_reducible assumption) | assumption)
                                              obtain ⟨ad180, A180_1, c180_1, e180, hx180_0, hx180_1, hx180_2, hx180_3, hl180_1, hi180_1⟩ := at_T33 (Kd.N_reads' HO177.out).2.2 0 p180 q180
                                              obtain rfl : ad178 = ad180 := (by injection e180)
                                              obtain ⟨ce180, hce180, hMe180, hcc180⟩ := Kd.N_get HO177.out z33 0 p180 (by first | exact q180 | exact of_decide_eq_true (by first | (with_reducible assumption) | assumption) | (have e_ := (Kd.N_reads' HO177.out).1; omega))
                                              obtain ⟨ua180_1, uc180_1, rfl, ul180_1, ge180_1⟩ := k33_openF hMe180
                                              have hv180_1 := hcc180 1 _ rfl
                                              rw [add_field _ _ 1 (by omega)] at hv180_1
                                              replace hv180_1 := Option.some.inj (hv180_1.symm.trans hx180_1)
                                              injection hv180_1 with hva_ hvn_ hvc_
                                              rw [hva_] at ge180_1
                                              rw [hvc_] at ul180_1
                                              have HL180_1 := Aside0.mk (show Kd.V (Kd.int .u64) 51 _ w.heap.size _ _ ((rd_T33 t175 0).f1) from Kd.V_mk ul180_1 ge180_1)
                                              clear hva_ hvn_ hvc_ ge180_1 ul180_1
                                              clear hcc180 hce180
                                              have qi180 : (0 < t175.length) = True := eq_true (by omega)
                                              (try rw [show ((0 : Int)).toNat = 0 from rfl] at hx180_0)
                                              (try rw [show 0 * 4 = 0 from rfl] at hx180_0)
                                              (try rw [Addr.add_zero'] at hx180_0)
                                              (try rw [show ((0 : Int)).toNat = 0 from rfl] at hx180_1)
                                              (try rw [show 0 * 4 = 0 from rfl] at hx180_1)
                                              (try rw [Addr.add_zero'] at hx180_1)
                                              (try rw [show ((0 : Int)).toNat = 0 from rfl] at hx180_2)
                                              (try rw [show 0 * 4 = 0 from rfl] at hx180_2)
                                              (try rw [Addr.add_zero'] at hx180_2)
                                              (try rw [show ((0 : Int)).toNat = 0 from rfl] at hx180_3)
                                              (try rw [show 0 * 4 = 0 from rfl] at hx180_3)
                                              (try rw [Addr.add_zero'] at hx180_3)
                                              have HR180_1 := Aside0.mk hi180_1
                                              have HC180_1 := Aside0.mk hl180_1
                                              clear hi180_1 hl180_1
                                              replace p180 := eq_true p180
                                              replace q180 := eq_true q180
                                              have ea_ := Option.some.inj (hx178_1.symm.trans hx180_1)
                                              injection ea_ with ea_ en_ ec_
                                              subst ea_
                                              subst ec_
                                              clear en_
                                              have p181 : 0 ≤ (x5_2 : Int) := of_decide_eq_true (by first | (with_reducible assumption) | assumption)
                                              have q181 : x5_2 < (t162.length : Int) := of_decide_eq_true (by first | (with_reducible assumption) | assumption)
                                              obtain ⟨ad181, A181_1, c181_1, e181, hx181_0, hx181_1, hx181_2, hx181_3, hl181_1, hi181_1⟩ := at_T33 (Kd.N_reads' HO_4.out).2.2 x5_2 p181 q181
                                              obtain rfl : ad174 = ad181 := (by injection e181)
                                              obtain ⟨ce181, hce181, hMe181, hcc181⟩ := Kd.N_get HO_4.out z33 x5_2 p181 (by first | exact q181 | exact of_decide_eq_true (by first | (with_reducible assumption) | assumption) | (have e_ := (Kd.N_reads' HO_4.out).1; omega))
                                              obtain ⟨ua181_1, uc181_1, rfl, ul181_1, ge181_1⟩ := k33_openF hMe181
                                              have hv181_1 := hcc181 1 _ rfl
                                              rw [add_field _ _ 1 (by omega)] at hv181_1
                                              replace hv181_1 := Option.some.inj (hv181_1.symm.trans hx181_1)
                                              injection hv181_1 with hva_ hvn_ hvc_
                                              rw [hva_] at ge181_1
                                              rw [hvc_] at ul181_1
                                              have HL181_1 := Aside0.mk (show Kd.V (Kd.int .u64) 51 _ w.heap.size _ _ ((rd_T33 t162 x5_2).f1) from Kd.V_mk ul181_1 ge181_1)
                                              clear hva_ hvn_ hvc_ ge181_1 ul181_1
                                              clear hcc181 hce181
                                              have HR181_1 := Aside0.mk hi181_1
                                              have HC181_1 := Aside0.mk hl181_1
                                              clear hi181_1 hl181_1
                                              replace p181 := eq_true p181
                                              replace q181 := eq_true q181
                                              have ea_ := Option.some.inj (hx179_1.symm.trans hx181_1)
                                              injection ea_ with ea_ en_ ec_
                                              subst ea_
                                              subst ec_
                                              clear en_
                                              have p182 : 0 ≤ (0 : Int) := (by omega)
                                              have q182 : 0 < (t175.length : Int) := of_decide_eq_true (by first | (with_reducible assumption) | assumption)
                                              obtain ⟨ad182, A182_1, c182_1, e182, hx182_0, hx182_1, hx182_2, hx182_3, hl182_1, hi182_1⟩ := at_T33 (Kd.N_reads' HO177.out).2.2 0 p182 q182
                                              obtain rfl : ad178 = ad182 := (by injection e182)
                                              obtain ⟨ce182, hce182, hMe182, hcc182⟩ := Kd.N_get HO177.out z33 0 p182 (by first | exact q182 | exact of_decide_eq_true (by first | (with_reducible assumption) | assumption) | (have e_ := (Kd.N_reads' HO177.out).1; omega))
                                              obtain ⟨ua182_1, uc182_1, rfl, ul182_1, ge182_1⟩ := k33_openF hMe182
                                              have hv182_1 := hcc182 1 _ rfl
                                              rw [add_field _ _ 1 (by omega)] at hv182_1
                                              replace hv182_1 := Option.some.inj (hv182_1.symm.trans hx182_1)
                                              injection hv182_1 with hva_ hvn_ hvc_
                                              rw [hva_] at ge182_1
                                              rw [hvc_] at ul182_1
                                              have HL182_1 := Aside0.mk (show Kd.V (Kd.int .u64) 51 _ w.heap.size _ _ ((rd_T33 t175 0).f1) from Kd.V_mk ul182_1 ge182_1)
                                              clear hva_ hvn_ hvc_ ge182_1 ul182_1
                                              clear hcc182 hce182
                                              have qi182 : (0 < t175.length) = True := eq_true (by omega)
                                              (try rw [show ((0 : Int)).toNat = 0 from rfl] at hx182_0)
                                              (try rw [show 0 * 4 = 0 from rfl] at hx182_0)
                                              (try rw [Addr.add_zero'] at hx182_0)
                                              (try rw [show ((0 : Int)).toNat = 0 from rfl] at hx182_1)
                                              (try rw [show 0 * 4 = 0 from rfl] at hx182_1)
                                              (try rw [Addr.add_zero'] at hx182_1)
                                              (try rw [show ((0 : Int)).toNat = 0 from rfl] at hx182_2)
                                              (try rw [show 0 * 4 = 0 from rfl] at hx182_2)
                                              (try rw [Addr.add_zero'] at hx182_2)
                                              (try rw [show ((0 : Int)).toNat = 0 from rfl] at hx182_3)
                                              (try rw [show 0 * 4 = 0 from rfl] at hx182_3)
                                              (try rw [Addr.add_zero'] at hx182_3)
                                              have HR182_1 := Aside0.mk hi182_1
                                              have HC182_1 := Aside0.mk hl182_1
                                              clear hi182_1 hl182_1
                                              replace p182 := eq_true p182
                                              replace q182 := eq_true q182
                                              have ea_ := Option.some.inj (hx178_1.symm.trans hx182_1)
                                              injection ea_ with ea_ en_ ec_
                                              subst ea_
                                              subst ec_
                                              clear en_
                                              go_wp2
                                              repeat (go_quiet (fail); try go_wp2)
                                              go_meet
                                              case rel => exact ⟨_, (true), (by first | rfl | (simp; done) | (simp [*]; done) | exact isEmpty_bne _), H', ⟨by have := HJ2.out; have := HK2.out; have := HJ9.out; have := HJ24.out; first | omega | exact Nat.le_refl _⟩, ⟨by (with_reducible repeat (first | apply Kd.N_alloc | apply Kd.N_drewN | apply Kd.N_drew)); exact Kd.N_mono HO_4.out (fun _ hk => trivial)⟩, ⟨by repeat (first | (with_reducible exact HR174_1.out) | (with_reducible refine Kd.C_alloc ?_ _) | (with_reducible refine Kd.C_drewN ?_ _) | (with_reducible refine Kd.C_drew ?_) | exact HR174_1.out)⟩, ⟨by repeat (first | (with_reducible first | exact HB.out | apply below_alloc | apply pw_below_drewN | apply below_drew1) | exact HB.out)⟩⟩
                                        · rw [if_neg c39] at H
                                          have c39b0 : (((rd_T33 t175 0).f0) == ((rd_T33 t162 x5_2).f0)) = false := beq_eq_false_iff_ne.mpr c39
                                          have c39b1 : (((rd_T33 t175 0).f0) != ((rd_T33 t162 x5_2).f0)) = true := bne_iff_ne.mpr c39
                                          have H' := Aside0.mk H
                                          clear H
                                          obtain ⟨Ao45, co45, eo45⟩ := Kd.N_slice HO177.out
                                          subst eo45
                                          have p178 : 0 ≤ (0 : Int) := (by omega)
                                          have q178 : 0 < (t175.length : Int) := of_decide_eq_true (by first | (with_reducible assumption) | assumption)
                                          obtain ⟨ad178, A178_1, c178_1, e178, hx178_0, hx178_1, hx178_2, hx178_3, hl178_1, hi178_1⟩ := at_T33 (Kd.N_reads' HO177.out).2.2 0 p178 q178
                                          cases e178
                                          obtain ⟨ce178, hce178, hMe178, hcc178⟩ := Kd.N_get HO177.out z33 0 p178 (by first | exact q178 | exact of_decide_eq_true (by first | (with_reducible assumption) | assumption) | (have e_ := (Kd.N_reads' HO177.out).1; omega))
                                          obtain ⟨ua178_1, uc178_1, rfl, ul178_1, ge178_1⟩ := k33_openF hMe178
                                          have hv178_1 := hcc178 1 _ rfl
                                          rw [add_field _ _ 1 (by omega)] at hv178_1
                                          replace hv178_1 := Option.some.inj (hv178_1.symm.trans hx178_1)
                                          injection hv178_1 with hva_ hvn_ hvc_
                                          rw [hva_] at ge178_1
                                          rw [hvc_] at ul178_1
                                          have HL178_1 := Aside0.mk (show Kd.V (Kd.int .u64) 51 _ w.heap.size _ _ ((rd_T33 t175 0).f1) from Kd.V_mk ul178_1 ge178_1)
                                          clear hva_ hvn_ hvc_ ge178_1 ul178_1
                                          clear hcc178 hce178
                                          have qi178 : (0 < t175.length) = True := eq_true (by omega)
                                          (try rw [show ((0 : Int)).toNat = 0 from rfl] at hx178_0)
                                          (try rw [show 0 * 4 = 0 from rfl] at hx178_0)
                                          (try rw [Addr.add_zero'] at hx178_0)
                                          (try rw [show ((0 : Int)).toNat = 0 from rfl] at hx178_1)
                                          (try rw [show 0 * 4 = 0 from rfl] at hx178_1)
                                          (try rw [Addr.add_zero'] at hx178_1)
                                          (try rw [show ((0 : Int)).toNat = 0 from rfl] at hx178_2)
                                          (try rw [show 0 * 4 = 0 from rfl] at hx178_2)
                                          (try rw [Addr.add_zero'] at hx178_2)
                                          (try rw [show ((0 : Int)).toNat = 0 from rfl] at hx178_3)
                                          (try rw [show 0 * 4 = 0 from rfl] at hx178_3)
                                          (try rw [Addr.add_zero'] at hx178_3)
                                          have HR178_1 := Aside0.mk hi178_1
                                          have HC178_1 := Aside0.mk hl178_1
                                          clear hi178_1 hl178_1
                                          replace p178 := eq_true p178
                                          replace q178 := eq_true q178
                                          have p179 : 0 ≤ (x5_2 : Int) := of_decide_eq_true (by first | (with_reducible assumption) | assumption)
                                          have q179 : x5_2 < (t162.length : Int) := of_decide_eq_true (by first | (with_reducible assumption) | assumption)
                                          obtain ⟨ad179, A179_1, c179_1, e179, hx179_0, hx179_1, hx179_2, hx179_3, hl179_1, hi179_1⟩ := at_T33 (Kd.N_reads' HO_4.out).2.2 x5_2 p179 q179
                                          obtain rfl : ad174 = ad179 := (by injection e179)
                                          obtain ⟨ce179, hce179, hMe179, hcc179⟩ := Kd.N_get HO_4.out z33 x5_2 p179 (by first | exact q179 | exact of_decide_eq_true (by first | (with_reducible assumption) | assumption) | (have e_ := (Kd.N_reads' HO_4.out).1; omega))
                                          obtain ⟨ua179_1, uc179_1, rfl, ul179_1, ge179_1⟩ := k33_openF hMe179
                                          have hv179_1 := hcc179 1 _ rfl
                                          rw [add_field _ _ 1 (by omega)] at hv179_1
                                          replace hv179_1 := Option.some.inj (hv179_1.symm.trans hx179_1)
                                          injection hv179_1 with hva_ hvn_ hvc_
                                          rw [hva_] at ge179_1
                                          rw [hvc_] at ul179_1
                                          have HL179_1 := Aside0.mk (show Kd.V (Kd.int .u64) 51 _ w.heap.size _ _ ((rd_T33 t162 x5_2).f1) from Kd.V_mk ul179_1 ge179_1)
                                          clear hva_ hvn_ hvc_ ge179_1 ul179_1
                                          clear hcc179 hce179
                                          have HR179_1 := Aside0.mk hi179_1
                                          have HC179_1 := Aside0.mk hl179_1
                                          clear hi179_1 hl179_1
                                          replace p179 := eq_true p179
                                          replace q179 := eq_true q179
                                          go_wp2
                                          repeat (go_quiet (fail); try go_wp2)
                                          go_meet
                                          case rel => exact ⟨_, (true), (by first | rfl | (simp; done) | (simp [*]; done) | exact isEmpty_bne _), H', ⟨by have := HJ2.out; have := HK2.out; have := HJ9.out; have := HJ24.out; first | omega | exact Nat.le_refl _⟩, ⟨by (with_reducible repeat (first | apply Kd.N_alloc | apply Kd.N_drewN | apply Kd.N_drew)); exact Kd.N_mono HO_4.out (fun _ hk => trivial)⟩, ⟨by repeat (first | (with_reducible exact HR174_1.out) | (with_reducible refine Kd.C_alloc ?_ _) | (with_reducible refine Kd.C_drewN ?_ _) | (with_reducible refine Kd.C_drew ?_) | exact HR174_1.out)⟩, ⟨by repeat (first | (with_reducible first | exact HB.out | apply below_alloc | apply pw_below_drewN | apply below_drew1) | exact HB.out)⟩⟩
                                      · rw [if_neg c38] at H
                                        exact absurd H (by simp)
                                    · rw [if_neg c37] at H
                                      have c37b0 : ((t175.length : Int) == 1) = false := beq_eq_false_iff_ne.mpr c37
                                      have c37b1 : ((t175.length : Int) != 1) = true := bne_iff_ne.mpr c37
                                      (first | rw [c37b0] | (simp only [i64_w, i32_w]; rw [c37b0]) | skip)
                                      have H' := Aside0.mk H
                                      clear H
                                      obtain ⟨Ao46, co46, eo46⟩ := Kd.N_slice HO177.out
                                      subst eo46
                                      go_wp2
                                      repeat (go_quiet (fail); try go_wp2)
                                      go_meet
                                      case rel => exact ⟨_, (true), (by first | rfl | (simp; done) | (simp [*]; done) | exact isEmpty_bne _), H', ⟨by have := HJ2.out; have := HK2.out; have := HJ9.out; have := HJ24.out; first | omega | exact Nat.le_refl _⟩, ⟨by (with_reducible repeat (first | apply Kd.N_alloc | apply Kd.N_drewN | apply Kd.N_drew)); exact Kd.N_mono HO_4.out (fun _ hk => trivial)⟩, ⟨by repeat (first | (with_reducible exact HR174_1.out) | (with_reducible refine Kd.C_alloc ?_ _) | (with_reducible refine Kd.C_drewN ?_ _) | (with_reducible refine Kd.C_drew ?_) | exact HR174_1.out)⟩, ⟨by repeat (first | (with_reducible first | exact HB.out | apply below_alloc | apply pw_below_drewN | apply below_drew1) | exact HB.out)⟩⟩
                                  case rest => as_aux_lemma =>
                                    clear HC35
                                    try clear c1
                                    try clear p1
                                    try clear q1
                                    try clear hx1
                                    try clear qi1
                                    try clear p2
                                    try clear c3
                                    try clear c4
                                    try clear c17
                                    try clear p17
                                    try clear q17
                                    try clear hx17
                                    try clear qi17
                                    try clear c18
                                    try clear p18
                                    try clear q18
                                    try clear hx18
                                    try clear qi18
                                    try clear c37
                                    try clear c37b0
                                    try clear c37b1
                                    try clear c38
                                    try clear c39
                                    try clear c39b0
                                    try clear c39b1
                                    try clear c40
                                    try clear c40b0
                                    try clear c40b1
                                    try clear c40b2
                                    try clear c42
                                    try clear c42b0
                                    try clear c42b1
                                    try clear hx178_0
                                    try clear hx178_1
                                    try clear hx178_2
                                    try clear hx178_3
                                    try clear hx179_0
                                    try clear hx179_1
                                    try clear hx179_2
                                    try clear hx179_3
                                    try clear hx180_0
                                    try clear hx180_1
                                    try clear hx180_2
                                    try clear hx180_3
                                    try clear hx181_0
                                    try clear hx181_1
                                    try clear hx181_2
                                    try clear hx181_3
                                    try clear hx182_0
                                    try clear hx182_1
                                    try clear hx182_2
                                    try clear hx182_3
                                    try clear hx183_0
                                    try clear hx183_1
                                    try clear hx183_2
                                    try clear hx183_3
                                    try clear hx184_0
                                    try clear hx184_1
                                    try clear hx184_2
                                    try clear hx184_3
                                    try clear p178
                                    try clear p179
                                    try clear p180
                                    try clear p181
                                    try clear p182
                                    try clear p183
                                    try clear p184
                                    try clear q178
                                    try clear q179
                                    try clear q180
                                    try clear q181
                                    try clear q182
                                    try clear q183
                                    try clear q184
                                    obtain ⟨kq, x145_34, rfl, HA, HJ34, HO_4, HR174_1, HB⟩ := hcut
                                    cases kq with
                                    | zero => exact absurd HA.out (by simp [hatstandlaw3_GlyphSpoils.j4])
                                    | succ kj34 =>
                                      have H := HA.out
                                      clear HA
                                      simp only [hatstandlaw3_GlyphSpoils.j4] at H
                                      by_cases c47 : x145_34 = true
                                      · subst c47
                                        have H1 : (some false) = some r := by rw [if_pos rfl] at H; exact H
                                        clear H
                                        have H := H1
                                        clear H1
                                        obtain rfl := Option.some.inj H
                                        go_wp2
                                        repeat (go_quiet (fail); try go_wp2)
                                        go_ret
                                        exact ⟨by first | rfl | (simp [errW_none, errW_some] <;> rfl) | (simp [*, errW_none, errW_some] <;> rfl), by repeat (first | (with_reducible first | exact HB.out | apply below_alloc | apply pw_below_drewN | apply below_drew1) | exact HB.out)⟩
                                      · replace c47 := Bool.eq_false_iff.mpr c47
                                        subst c47
                                        have H1 : (hatstandlaw3_GlyphSpoils.l0 kj34 a0 t162 (wrap64 (x5_2 + 1))) = some r := by rw [if_neg (show ¬ (false = true) by decide)] at H; exact H
                                        clear H
                                        have H := H1
                                        clear H1
                                        have H' := Aside0.mk H
                                        clear H
                                        go_wp2
                                        repeat (go_quiet (fail); try go_wp2)
                                        go_roundg kj34
                                        case measure => have := HJ2.out; have := HK2.out; have := HJ9.out; have := HJ24.out; have := HJ34.out; omega
                                        case rel => exact ⟨(wrap64 (x5_2 + 1)), (by first | rfl | (simp; done) | (simp [*]; done) | exact isEmpty_bne _), H', ⟨by have := HJ2.out; have := HK2.out; have := HJ9.out; have := HJ24.out; have := HJ34.out; omega⟩, ⟨by (with_reducible repeat (first | apply Kd.N_alloc | apply Kd.N_drewN | apply Kd.N_drew)); exact HO_4.out⟩, ⟨by repeat (first | (with_reducible first | exact HB.out | apply below_alloc | apply pw_below_drewN | apply below_drew1) | exact HB.out)⟩⟩
                                · rw [if_neg c33] at H
                                  exact absurd H (by simp)
                              · rw [if_neg c32] at H
                                exact absurd H (by simp)
                            · rw [if_neg c31] at H
                              exact absurd H (by simp)
                          · rw [if_neg c30] at H
                            exact absurd H (by simp)
                        · rw [if_neg c29] at H
                          exact absurd H (by simp)
            · rw [if_neg c9] at H
              have c9b0 : decide (x5_2 < (t162.length : Int)) = false := decide_eq_false c9
              clear c9
              obtain rfl := Option.some.inj H
              obtain ⟨Ao48, co48, eo48⟩ := Kd.N_slice HO_4.out
              subst eo48
              go_wp2
              repeat (go_quiet (fail); try go_wp2)
              go_ret
              exact ⟨by first | rfl | (simp [errW_none, errW_some] <;> rfl) | (simp [*, errW_none, errW_some] <;> rfl), by repeat (first | (with_reducible first | exact HB.out | apply below_alloc | apply pw_below_drewN | apply below_drew1) | exact HB.out)⟩

end Go.Proofs.YtcldjdngfmakbaaDoor.G

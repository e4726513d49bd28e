-- Written by this session's own program wip/tool/myprint.py over the kit's printer; not trusted: Lean checks it.
import Derived.Test.YtcldjdngfmakbaaDoorG0
import Derived.Test.YtcldjdngfmakbaaDoorG1
import Derived.Test.YtcldjdngfmakbaaDoorG2
import Derived.Test.YtcldjdngfmakbaaDoorGMade
import Derived.Test.YtcldjdngfmakbaaDoorGlyphParse
import Derived.Test.YtcldjdngfmakbaaDoorGlyphPut
import Derived.Test.YtcldjdngfmakbaaDoorGlyphShown
import Derived.Test.YtcldjdngfmakbaaDoorGround
namespace Go.Proofs.YtcldjdngfmakbaaDoor.G
open Go.RowKit Go.Proofs.YtcldjdngfmakbaaDoorW.PrintWords Go.Proofs.YtcldjdngfmakbaaDoorW.PrintLast Go.Proofs.YtcldjdngfmakbaaDoorW.PrintMore
attribute [local go_sem] max2_int min2_int max_two min_two max_three min_three max_four min_four   -- for this text's walks alone
set_option linter.unusedVariables false
set_option linter.unusedSimpArgs false

open Go.Proofs.YtcldjdngfmakbaaDoor
/-! ### hatstandlaw3_GlyphBack: function 6 -/
mutual
def hatstandlaw3_GlyphBack.j0 : Nat → List Int → List (List Int) → Bool → Bool → Option (Bool)
  | 0, _, _, _, _ => none
  | k + 1, x0, x1, x5, x27 => if x27 = true then (some x5) else (hatstandlaw3_GlyphBack.l0 k x0 x1 0)
def hatstandlaw3_GlyphBack.l0 : Nat → List Int → List (List Int) → Int → Option (Bool)
  | 0, _, _, _ => none
  | k + 1, x0, x1, x6 => if x6 < (x1.length : Int) then (if 0 ≤ x6 then (if ((rd_L2 x1 x6).length : Int) > 20 then (some true) else (hatstandlaw3_GlyphBack.l0 k x0 x1 (wrap64 (x6 + 1)))) else (none)) else ((hatstandlaw3_made.f k x0 x1).bind fun t272 => ((glyph_Put.f t272).bind fun bt275 => ((glyph_Parse.f bt275.1).bind fun t277 => (if bt275.2 = 0 then ((hatstandlaw3_as.f k t277).bind fun t280 => ((hatstandlaw3_as.f k t272).bind fun t283 => ((hatstandref3_Same.f k t280 t283 false).bind fun t286 => (hatstandlaw3_GlyphBack.j2 k t272 bt275.1 t277 (!t286))))) else (hatstandlaw3_GlyphBack.j2 k t272 bt275.1 t277 true)))))
def hatstandlaw3_GlyphBack.j2 : Nat → List (S33) → ByteArray → List (S33) → Bool → Option (Bool)
  | 0, _, _, _, _ => none
  | k + 1, x7, x8, x10, x60 => if x60 = true then (some false) else (hatstandlaw3_GlyphBack.l1 k x7 x8 x10 0)
def hatstandlaw3_GlyphBack.l1 : Nat → List (S33) → ByteArray → List (S33) → Int → Option (Bool)
  | 0, _, _, _, _ => none
  | k + 1, x7, x8, x10, x11 => if x11 < (x10.length : Int) then (if (wrap64 (x11 + 1)) < (x10.length : Int) then (if 0 ≤ (wrap64 (x11 + 1)) then (hatstandlaw3_GlyphBack.j4 k x7 x8 x10 x11 ((rd_T33 x10 (wrap64 (x11 + 1))).f3)) else (none)) else (hatstandlaw3_GlyphBack.j4 k x7 x8 x10 x11 (x8.size : Int))) else (some true)
def hatstandlaw3_GlyphBack.j4 : Nat → List (S33) → ByteArray → List (S33) → Int → Int → Option (Bool)
  | 0, _, _, _, _, _ => none
  | k + 1, x7, x8, x10, x11, x12 => if 0 ≤ x11 then (if x11 < (x10.length : Int) then (if ((rd_T33 x10 x11).f3) < 0 then (hatstandlaw3_GlyphBack.j5 k x7 x8 x10 x11 x12 true) else (if ((rd_T33 x10 x11).f3) ≥ x12 then (hatstandlaw3_GlyphBack.j5 k x7 x8 x10 x11 x12 true) else (hatstandlaw3_GlyphBack.j5 k x7 x8 x10 x11 x12 (decide (x12 > (x8.size : Int)))))) else (none)) else (none)
def hatstandlaw3_GlyphBack.j5 : Nat → List (S33) → ByteArray → List (S33) → Int → Int → Bool → Option (Bool)
  | 0, _, _, _, _, _, _ => none
  | k + 1, x7, x8, x10, x11, x12, x100 => if x100 = true then (some false) else (if 0 ≤ x11 then (if x11 ≤ (wrap64 (x11 + 1)) then (if (wrap64 (x11 + 1)) ≤ (x7.length : Int) then ((glyph_Put.f ((x7.take ((wrap64 (x11 + 1)) : Int).toNat).drop (x11 : Int).toNat)).bind fun bt295 => (if bt295.2 = 0 then (if x11 < (x10.length : Int) then (if 0 ≤ ((rd_T33 x10 x11).f3) then (if ((rd_T33 x10 x11).f3) ≤ x12 then (if x12 ≤ (x8.size : Int) then (if (x8.extract (((rd_T33 x10 x11).f3) : Int).toNat (x12 : Int).toNat).toList = bt295.1.toList then (hatstandlaw3_GlyphBack.l1 k x7 x8 x10 (wrap64 (x11 + 1))) else (some false)) else (none)) else (none)) else (none)) else (none)) else (some false))) else (none)) else (none)) else (none))
end
def hatstandlaw3_GlyphBack.f (k : Nat) (l0 : List Int) (l1 : List (List Int)) : Option (Bool) := (hatstandlaw3_shown.f).bind fun t270 => (if t270 = true then (if (l0.length : Int) > 50 then (hatstandlaw3_GlyphBack.j0 k l0 l1 t270 true) else (hatstandlaw3_GlyphBack.j0 k l0 l1 t270 (decide ((l1.length : Int) > 50)))) else (hatstandlaw3_GlyphBack.j0 k l0 l1 t270 true))
theorem hatstandlaw3_GlyphBack.mono_l : ∀ k, (∀ y0 y1 y2 y3, LeO (hatstandlaw3_GlyphBack.j0 k y0 y1 y2 y3) (hatstandlaw3_GlyphBack.j0 (k + 1) y0 y1 y2 y3)) ∧ (∀ y0 y1 y2, LeO (hatstandlaw3_GlyphBack.l0 k y0 y1 y2) (hatstandlaw3_GlyphBack.l0 (k + 1) y0 y1 y2)) ∧ (∀ y0 y1 y2 y3, LeO (hatstandlaw3_GlyphBack.j2 k y0 y1 y2 y3) (hatstandlaw3_GlyphBack.j2 (k + 1) y0 y1 y2 y3)) ∧ (∀ y0 y1 y2 y3, LeO (hatstandlaw3_GlyphBack.l1 k y0 y1 y2 y3) (hatstandlaw3_GlyphBack.l1 (k + 1) y0 y1 y2 y3)) ∧ (∀ y0 y1 y2 y3 y4, LeO (hatstandlaw3_GlyphBack.j4 k y0 y1 y2 y3 y4) (hatstandlaw3_GlyphBack.j4 (k + 1) y0 y1 y2 y3 y4)) ∧ (∀ y0 y1 y2 y3 y4 y5, LeO (hatstandlaw3_GlyphBack.j5 k y0 y1 y2 y3 y4 y5) (hatstandlaw3_GlyphBack.j5 (k + 1) y0 y1 y2 y3 y4 y5))
  | 0 => ⟨fun _ _ _ _ r h => by simp [hatstandlaw3_GlyphBack.j0] at h, fun _ _ _ r h => by simp [hatstandlaw3_GlyphBack.l0] at h, fun _ _ _ _ r h => by simp [hatstandlaw3_GlyphBack.j2] at h, fun _ _ _ _ r h => by simp [hatstandlaw3_GlyphBack.l1] at h, fun _ _ _ _ _ r h => by simp [hatstandlaw3_GlyphBack.j4] at h, fun _ _ _ _ _ _ r h => by simp [hatstandlaw3_GlyphBack.j5] at h⟩
  | k + 1 => by
    obtain ⟨ih0, ih1, ih2, ih3, ih4, ih5⟩ := hatstandlaw3_GlyphBack.mono_l k
    refine ⟨?_, ?_, ?_, ?_, ?_, ?_⟩
    · intro y0 y1 y2 y3
      unfold hatstandlaw3_GlyphBack.j0
      repeat' first
      | (with_reducible exact ih0 _ _ _ _)
      | (with_reducible exact ih1 _ _ _)
      | (with_reducible exact ih2 _ _ _ _)
      | (with_reducible exact ih3 _ _ _ _)
      | (with_reducible exact ih4 _ _ _ _ _)
      | (with_reducible exact ih5 _ _ _ _ _ _)
      | (with_reducible exact hatstandlaw3_as.mono _ _)
      | (with_reducible exact hatstandlaw3_made.mono _ _ _)
      | (with_reducible exact hatstandref3_Same.mono _ _ _ _)
      | (with_reducible exact LeO.refl _)
      | (with_reducible exact LeO.none _)
      | (with_reducible refine LeO.ite ?_ ?_)
      | (with_reducible refine LeO.bind ?_ (fun _ => ?_))
      | exact ih0 _ _ _ _
      | exact ih1 _ _ _
      | exact ih2 _ _ _ _
      | exact ih3 _ _ _ _
      | exact ih4 _ _ _ _ _
      | exact ih5 _ _ _ _ _ _
      | exact hatstandlaw3_as.mono _ _
      | exact hatstandlaw3_made.mono _ _ _
      | exact hatstandref3_Same.mono _ _ _ _
      | exact LeO.none _
      | refine LeO.ite ?_ ?_
      | refine LeO.bind ?_ (fun _ => ?_)
    · intro y0 y1 y2
      unfold hatstandlaw3_GlyphBack.l0
      repeat' first
      | (with_reducible exact ih0 _ _ _ _)
      | (with_reducible exact ih1 _ _ _)
      | (with_reducible exact ih2 _ _ _ _)
      | (with_reducible exact ih3 _ _ _ _)
      | (with_reducible exact ih4 _ _ _ _ _)
      | (with_reducible exact ih5 _ _ _ _ _ _)
      | (with_reducible exact hatstandlaw3_as.mono _ _)
      | (with_reducible exact hatstandlaw3_made.mono _ _ _)
      | (with_reducible exact hatstandref3_Same.mono _ _ _ _)
      | (with_reducible exact LeO.refl _)
      | (with_reducible exact LeO.none _)
      | (with_reducible refine LeO.ite ?_ ?_)
      | (with_reducible refine LeO.bind ?_ (fun _ => ?_))
      | exact ih0 _ _ _ _
      | exact ih1 _ _ _
      | exact ih2 _ _ _ _
      | exact ih3 _ _ _ _
      | exact ih4 _ _ _ _ _
      | exact ih5 _ _ _ _ _ _
      | exact hatstandlaw3_as.mono _ _
      | exact hatstandlaw3_made.mono _ _ _
      | exact hatstandref3_Same.mono _ _ _ _
      | exact LeO.none _
      | refine LeO.ite ?_ ?_
      | refine LeO.bind ?_ (fun _ => ?_)
    · intro y0 y1 y2 y3
      unfold hatstandlaw3_GlyphBack.j2
      repeat' first
      | (with_reducible exact ih0 _ _ _ _)
      | (with_reducible exact ih1 _ _ _)
      | (with_reducible exact ih2 _ _ _ _)
      | (with_reducible exact ih3 _ _ _ _)
      | (with_reducible exact ih4 _ _ _ _ _)
      | (with_reducible exact ih5 _ _ _ _ _ _)
      | (with_reducible exact hatstandlaw3_as.mono _ _)
      | (with_reducible exact hatstandlaw3_made.mono _ _ _)
      | (with_reducible exact hatstandref3_Same.mono _ _ _ _)
      | (with_reducible exact LeO.refl _)
      | (with_reducible exact LeO.none _)
      | (with_reducible refine LeO.ite ?_ ?_)
      | (with_reducible refine LeO.bind ?_ (fun _ => ?_))
      | exact ih0 _ _ _ _
      | exact ih1 _ _ _
      | exact ih2 _ _ _ _
      | exact ih3 _ _ _ _
      | exact ih4 _ _ _ _ _
      | exact ih5 _ _ _ _ _ _
      | exact hatstandlaw3_as.mono _ _
      | exact hatstandlaw3_made.mono _ _ _
      | exact hatstandref3_Same.mono _ _ _ _
      | exact LeO.none _
      | refine LeO.ite ?_ ?_
      | refine LeO.bind ?_ (fun _ => ?_)
    · intro y0 y1 y2 y3
      unfold hatstandlaw3_GlyphBack.l1
      repeat' first
      | (with_reducible exact ih0 _ _ _ _)
      | (with_reducible exact ih1 _ _ _)
      | (with_reducible exact ih2 _ _ _ _)
      | (with_reducible exact ih3 _ _ _ _)
      | (with_reducible exact ih4 _ _ _ _ _)
      | (with_reducible exact ih5 _ _ _ _ _ _)
      | (with_reducible exact hatstandlaw3_as.mono _ _)
      | (with_reducible exact hatstandlaw3_made.mono _ _ _)
      | (with_reducible exact hatstandref3_Same.mono _ _ _ _)
      | (with_reducible exact LeO.refl _)
      | (with_reducible exact LeO.none _)
      | (with_reducible refine LeO.ite ?_ ?_)
      | (with_reducible refine LeO.bind ?_ (fun _ => ?_))
      | exact ih0 _ _ _ _
      | exact ih1 _ _ _
      | exact ih2 _ _ _ _
      | exact ih3 _ _ _ _
      | exact ih4 _ _ _ _ _
      | exact ih5 _ _ _ _ _ _
      | exact hatstandlaw3_as.mono _ _
      | exact hatstandlaw3_made.mono _ _ _
      | exact hatstandref3_Same.mono _ _ _ _
      | exact LeO.none _
      | refine LeO.ite ?_ ?_
      | refine LeO.bind ?_ (fun _ => ?_)
    · intro y0 y1 y2 y3 y4
      unfold hatstandlaw3_GlyphBack.j4
      repeat' first
      | (with_reducible exact ih0 _ _ _ _)
      | (with_reducible exact ih1 _ _ _)
      | (with_reducible exact ih2 _ _ _ _)
      | (with_reducible exact ih3 _ _ _ _)
      | (with_reducible exact ih4 _ _ _ _ _)
      | (with_reducible exact ih5 _ _ _ _ _ _)
      | (with_reducible exact hatstandlaw3_as.mono _ _)
      | (with_reducible exact hatstandlaw3_made.mono _ _ _)
      | (with_reducible exact hatstandref3_Same.mono _ _ _ _)
      | (with_reducible exact LeO.refl _)
      | (with_reducible exact LeO.none _)
      | (with_reducible refine LeO.ite ?_ ?_)
      | (with_reducible refine LeO.bind ?_ (fun _ => ?_))
      | exact ih0 _ _ _ _
      | exact ih1 _ _ _
      | exact ih2 _ _ _ _
      | exact ih3 _ _ _ _
      | exact ih4 _ _ _ _ _
      | exact ih5 _ _ _ _ _ _
      | exact hatstandlaw3_as.mono _ _
      | exact hatstandlaw3_made.mono _ _ _
      | exact hatstandref3_Same.mono _ _ _ _
      | exact LeO.none _
      | refine LeO.ite ?_ ?_
      | refine LeO.bind ?_ (fun _ => ?_)
    · intro y0 y1 y2 y3 y4 y5
      unfold hatstandlaw3_GlyphBack.j5
      repeat' first
      | (with_reducible exact ih0 _ _ _ _)
      | (with_reducible exact ih1 _ _ _)
      | (with_reducible exact ih2 _ _ _ _)
      | (with_reducible exact ih3 _ _ _ _)
      | (with_reducible exact ih4 _ _ _ _ _)
      | (with_reducible exact ih5 _ _ _ _ _ _)
      | (with_reducible exact hatstandlaw3_as.mono _ _)
      | (with_reducible exact hatstandlaw3_made.mono _ _ _)
      | (with_reducible exact hatstandref3_Same.mono _ _ _ _)
      | (with_reducible exact LeO.refl _)
      | (with_reducible exact LeO.none _)
      | (with_reducible refine LeO.ite ?_ ?_)
      | (with_reducible refine LeO.bind ?_ (fun _ => ?_))
      | exact ih0 _ _ _ _
      | exact ih1 _ _ _
      | exact ih2 _ _ _ _
      | exact ih3 _ _ _ _
      | exact ih4 _ _ _ _ _
      | exact ih5 _ _ _ _ _ _
      | exact hatstandlaw3_as.mono _ _
      | exact hatstandlaw3_made.mono _ _ _
      | exact hatstandref3_Same.mono _ _ _ _
      | exact LeO.none _
      | refine LeO.ite ?_ ?_
      | refine LeO.bind ?_ (fun _ => ?_)
theorem hatstandlaw3_GlyphBack.mono : ∀ a0 a1 k, LeO (hatstandlaw3_GlyphBack.f k a0 a1) (hatstandlaw3_GlyphBack.f (k + 1) a0 a1) := by
  intro a0 a1 k
  obtain ⟨ih0, ih1, ih2, ih3, ih4, ih5⟩ := hatstandlaw3_GlyphBack.mono_l k
  unfold hatstandlaw3_GlyphBack.f
  repeat' first
      | (with_reducible exact ih0 _ _ _ _)
      | (with_reducible exact ih1 _ _ _)
      | (with_reducible exact ih2 _ _ _ _)
      | (with_reducible exact ih3 _ _ _ _)
      | (with_reducible exact ih4 _ _ _ _ _)
      | (with_reducible exact ih5 _ _ _ _ _ _)
      | (with_reducible exact hatstandlaw3_as.mono _ _)
      | (with_reducible exact hatstandlaw3_made.mono _ _ _)
      | (with_reducible exact hatstandref3_Same.mono _ _ _ _)
      | (with_reducible exact LeO.refl _)
      | (with_reducible exact LeO.none _)
      | (with_reducible refine LeO.ite ?_ ?_)
      | (with_reducible refine LeO.bind ?_ (fun _ => ?_))
      | exact ih0 _ _ _ _
      | exact ih1 _ _ _
      | exact ih2 _ _ _ _
      | exact ih3 _ _ _ _
      | exact ih4 _ _ _ _ _
      | exact ih5 _ _ _ _ _ _
      | exact hatstandlaw3_as.mono _ _
      | exact hatstandlaw3_made.mono _ _ _
      | exact hatstandref3_Same.mono _ _ _ _
      | exact LeO.none _
      | refine LeO.ite ?_ ?_
      | refine LeO.bind ?_ (fun _ => ?_)
set_option maxHeartbeats 8000000 in
set_option maxRecDepth 100000 in
theorem hatstandlaw3_GlyphBack.calls (k : Nat) (A0 : Option Addr) (c0 : Nat) (l0 : List Int) (A1 : Option Addr) (c1 : Nat) (l1 : List (List Int)) (r : Bool) (w : World) (hr0 : Kd.C (Kd.int .i64) w A0 l0.length l0) (hc0 : l0.length ≤ c0) (hr1 : Kd.C (Kd.slice 51 (Kd.int .u64)) w A1 l1.length l1) (hc1 : l1.length ≤ c1) (hG : GG w) (h : hatstandlaw3_GlyphBack.f k l0 l1 = some r) :
    Calls Tryd.prog 6 #[.slice A0 l0.length c0, .slice A1 l1.length c1] w fun e w' => e = .returned (.bool r) ∧ Below w.heap.size w w' := by
  have HR0 := Aside0.mk hr0
  have HC0 := Aside0.mk hc0
  clear hr0 hc0
  have HR1 := Aside0.mk hr1
  have HC1 := Aside0.mk hc1
  clear hr1 hc1
  have HB := Aside0.mk (Below.refl w.heap.size w)
  have H : ((hatstandlaw3_shown.f).bind fun t270 => (if t270 = true then (if (l0.length : Int) > 50 then (hatstandlaw3_GlyphBack.j0 k l0 l1 t270 true) else (hatstandlaw3_GlyphBack.j0 k l0 l1 t270 (decide ((l1.length : Int) > 50)))) else (hatstandlaw3_GlyphBack.j0 k l0 l1 t270 true))) = some r := h
  clear h
  replace H := Option.bind_eq_some_iff.mp H
  obtain ⟨t270, A30, H⟩ := H
  replace H : (if t270 = true then (if (l0.length : Int) > 50 then (hatstandlaw3_GlyphBack.j0 k l0 l1 t270 true) else (hatstandlaw3_GlyphBack.j0 k l0 l1 t270 (decide ((l1.length : Int) > 50)))) else (hatstandlaw3_GlyphBack.j0 k l0 l1 t270 true)) = some r := H
  have A3 := Aside0.mk A30
  clear A30
  have HC4 := Aside0.mk H
  clear H
  go_enter Tryd.func6, Tryd.ntmps6
  go_upto_region 2 with (first | ((with_reducible refine gate_callee (f := 10) rfl ?_); refine goesL_ (some 15) rfl rfl Tryd.func10 (by kernel_rfl) rfl #[] rfl (by (try simp only [List.map_toArray, List.map_cons, List.map_nil]); first | done | rfl | (simp only [List.length_drop, List.length_take]; rfl)) ?_; (with_reducible refine (hatstandlaw3_shown.calls  t270 _ ?side1 A3.out).mono ?_); (case side1 => exact GG_at hG (by repeat (first | (with_reducible first | exact HB.out | apply below_alloc | apply pw_below_drewN | apply below_drew1) | exact HB.out))); rintro e w5 ⟨rfl, hb⟩; refine ⟨_, rfl, ?_⟩; have n0_ := Aside0.mk (below_step (by repeat (first | (with_reducible first | exact HB.out | apply below_alloc | apply pw_below_drewN | apply below_drew1) | exact HB.out)) hb); clear HB; have HB := n0_; clear n0_; (try clear hb); (try clear hb2); (try clear hk); (try clear hi)))
  (try simp only [Act.put, List.setIfInBounds_toArray, List.set_cons_zero, List.set_cons_succ])
  go_cut [27] (fun v27 wc => ∃ (kq : Nat) (x27_3 : Bool), v27 = .bool x27_3 ∧ Aside0 (hatstandlaw3_GlyphBack.j0 kq l0 l1 t270 x27_3 = some r) ∧ Aside0 (kq ≤ k) ∧ Aside0 (Below w.heap.size w wc))
  case first =>
    have H := HC4.out
    clear HC4
    by_cases c6 : t270 = true
    · subst c6
      have H1 : (if (l0.length : Int) > 50 then (hatstandlaw3_GlyphBack.j0 k l0 l1 true true) else (hatstandlaw3_GlyphBack.j0 k l0 l1 true (decide ((l1.length : Int) > 50)))) = some r := by rw [if_pos rfl] at H; exact H
      clear H
      have H := H1
      clear H1
      by_cases c7 : (l0.length : Int) > 50
      · rw [if_pos c7] at H
        have c7b0 : decide (50 < (l0.length : Int)) = true := decide_eq_true c7
        have c7b1 : decide (50 < l0.length) = true := decide_eq_true (by omega)
        clear c7
        (first | rw [c7b0] | (simp only [i64_w, i32_w]; rw [c7b0]) | skip)
        have H' := Aside0.mk H
        clear H
        go_wp2
        go_meet
        case rel => exact ⟨_, (true), (by first | rfl | (simp; done) | (simp [*]; done) | exact isEmpty_bne _), H', ⟨by first | omega | exact Nat.le_refl _⟩, ⟨by repeat (first | (with_reducible first | exact HB.out | apply below_alloc | apply pw_below_drewN | apply below_drew1) | exact HB.out)⟩⟩
      · rw [if_neg c7] at H
        have c7b0 : decide (50 < (l0.length : Int)) = false := decide_eq_false c7
        have c7b1 : decide (50 < l0.length) = false := decide_eq_false (by omega)
        clear c7
        (first | rw [c7b0] | (simp only [i64_w, i32_w]; rw [c7b0]) | skip)
        have H' := Aside0.mk H
        clear H
        go_wp2
        go_meet
        case rel => exact ⟨_, (decide ((l1.length : Int) > 50)), (by first | rfl | (simp; done) | (simp [*]; done) | exact isEmpty_bne _), H', ⟨by first | omega | exact Nat.le_refl _⟩, ⟨by repeat (first | (with_reducible first | exact HB.out | apply below_alloc | apply pw_below_drewN | apply below_drew1) | exact HB.out)⟩⟩
    · replace c6 := Bool.eq_false_iff.mpr c6
      subst c6
      have H1 : (hatstandlaw3_GlyphBack.j0 k l0 l1 false true) = some r := by rw [if_neg (show ¬ (false = true) by decide)] at H; exact H
      clear H
      have H := H1
      clear H1
      have H' := Aside0.mk H
      clear H
      go_wp2
      go_meet
      case rel => exact ⟨_, (true), (by first | rfl | (simp; done) | (simp [*]; done) | exact isEmpty_bne _), H', ⟨by first | omega | exact Nat.le_refl _⟩, ⟨by repeat (first | (with_reducible first | exact HB.out | apply below_alloc | apply pw_below_drewN | apply below_drew1) | exact HB.out)⟩⟩
  case rest =>
    clear HC4
    try clear c1
    try clear p2
    try clear c6
    try clear c7
    try clear c7b0
    try clear c7b1
    obtain ⟨kq, x27_3, rfl, HA, HJ3, HB⟩ := hcut
    cases kq with
    | zero => exact absurd HA.out (by simp [hatstandlaw3_GlyphBack.j0])
    | succ kj3 =>
      have H := HA.out
      clear HA
      simp only [hatstandlaw3_GlyphBack.j0] at H
      by_cases c8 : x27_3 = true
      · subst c8
        have H1 : (some t270) = some r := by rw [if_pos rfl] at H; exact H
        clear H
        have H := H1
        clear H1
        obtain rfl := Option.some.inj H
        go_wp2
        go_ret
        exact ⟨by first | rfl | (simp [errW_none, errW_some] <;> rfl) | (simp [*, errW_none, errW_some] <;> rfl), by repeat (first | (with_reducible first | exact HB.out | apply below_alloc | apply pw_below_drewN | apply below_drew1) | exact HB.out)⟩
      · replace c8 := Bool.eq_false_iff.mpr c8
        subst c8
        have H1 : (hatstandlaw3_GlyphBack.l0 kj3 l0 l1 0) = some r := by rw [if_neg (show ¬ (false = true) by decide)] at H; exact H
        clear H
        have H := H1
        clear H1
        have H' := Aside0.mk H
        clear H
        go_wp2
        go_loopg [6] kj3 (fun kq v6 w' => ∃ (x6_2 : Int), v6 = .int .i64 x6_2 ∧ Aside0 (hatstandlaw3_GlyphBack.l0 kq l0 l1 x6_2 = some r) ∧ Aside0 (kq ≤ kj3) ∧ Aside0 (Below w.heap.size w w'))
        case atStart => exact ⟨(0), (by first | rfl | (simp; done) | (simp [*]; done) | exact isEmpty_bne _), H', ⟨Nat.le_refl _⟩, ⟨by repeat (first | (with_reducible first | exact HB.out | apply below_alloc | apply pw_below_drewN | apply below_drew1) | exact HB.out)⟩⟩
        case round =>
          clear H'
          try clear c1
          try clear p2
          try clear c6
          try clear c7
          try clear c7b0
          try clear c7b1
          try clear c8
          try clear p2
          obtain ⟨x6_2, rfl, HA, HK2, HB⟩ := hrel
          cases gk with
          | zero => exact absurd HA.out (by simp [hatstandlaw3_GlyphBack.l0])
          | succ k2 =>
            have H := HA.out
            clear HA
            simp only [hatstandlaw3_GlyphBack.l0] at H
            by_cases c9 : x6_2 < (l1.length : Int)
            · rw [if_pos c9] at H
              have c9b0 : decide (x6_2 < (l1.length : Int)) = true := decide_eq_true c9
              clear c9
              by_cases c10 : 0 ≤ x6_2
              · rw [if_pos c10] at H
                have c10b0 : decide (0 ≤ x6_2) = true := decide_eq_true c10
                clear c10
                by_cases c11 : ((rd_L2 l1 x6_2).length : Int) > 20
                · rw [if_pos c11] at H
                  have c11b0 : decide (20 < ((rd_L2 l1 x6_2).length : Int)) = true := decide_eq_true c11
                  have c11b1 : decide (20 < (rd_L2 l1 x6_2).length) = true := decide_eq_true (by omega)
                  clear c11
                  obtain rfl := Option.some.inj H
                  have p271 : 0 ≤ (x6_2 : Int) := of_decide_eq_true (by first | (with_reducible assumption) | assumption)
                  have q271 : x6_2 < (l1.length : Int) := of_decide_eq_true (by first | (with_reducible assumption) | assumption)
                  obtain ⟨ad271, A271_0, c271_0, e271, hx271_0, hl271_0, hi271_0⟩ := at_L2 HR1.out x6_2 p271 q271
                  cases e271
                  replace hx271_0 := (HB.out.cell (World.block_lt_of_cell? w _ hx271_0)).trans hx271_0
                  have HR271_0 := Aside0.mk hi271_0
                  have HC271_0 := Aside0.mk hl271_0
                  clear hi271_0 hl271_0
                  replace p271 := eq_true p271
                  replace q271 := eq_true q271
                  go_wp2
                  go_ret
                  exact ⟨by first | rfl | (simp [errW_none, errW_some] <;> rfl) | (simp [*, errW_none, errW_some] <;> rfl), by repeat (first | (with_reducible first | exact HB.out | apply below_alloc | apply pw_below_drewN | apply below_drew1) | exact HB.out)⟩
                · rw [if_neg c11] at H
                  have c11b0 : decide (20 < ((rd_L2 l1 x6_2).length : Int)) = false := decide_eq_false c11
                  have c11b1 : decide (20 < (rd_L2 l1 x6_2).length) = false := decide_eq_false (by omega)
                  clear c11
                  have H' := Aside0.mk H
                  clear H
                  have p271 : 0 ≤ (x6_2 : Int) := of_decide_eq_true (by first | (with_reducible assumption) | assumption)
                  have q271 : x6_2 < (l1.length : Int) := of_decide_eq_true (by first | (with_reducible assumption) | assumption)
                  obtain ⟨ad271, A271_0, c271_0, e271, hx271_0, hl271_0, hi271_0⟩ := at_L2 HR1.out x6_2 p271 q271
                  cases e271
                  replace hx271_0 := (HB.out.cell (World.block_lt_of_cell? w _ hx271_0)).trans hx271_0
                  have HR271_0 := Aside0.mk hi271_0
                  have HC271_0 := Aside0.mk hl271_0
                  clear hi271_0 hl271_0
                  replace p271 := eq_true p271
                  replace q271 := eq_true q271
                  go_wp2
                  go_roundg k2
                  case measure => have := HJ3.out; have := HK2.out; omega
                  case rel => exact ⟨(wrap64 (x6_2 + 1)), (by first | rfl | (simp; done) | (simp [*]; done) | exact isEmpty_bne _), H', ⟨by have := HJ3.out; have := HK2.out; omega⟩, ⟨by repeat (first | (with_reducible first | exact HB.out | apply below_alloc | apply pw_below_drewN | apply below_drew1) | exact HB.out)⟩⟩
              · rw [if_neg c10] at H
                exact absurd H (by simp)
            · rw [if_neg c9] at H
              have c9b0 : decide (x6_2 < (l1.length : Int)) = false := decide_eq_false c9
              clear c9
              replace H := Option.bind_eq_some_iff.mp H
              obtain ⟨t272, A120, H⟩ := H
              replace H : ((glyph_Put.f t272).bind fun bt275 => ((glyph_Parse.f bt275.1).bind fun t277 => (if bt275.2 = 0 then ((hatstandlaw3_as.f k2 t277).bind fun t280 => ((hatstandlaw3_as.f k2 t272).bind fun t283 => ((hatstandref3_Same.f k2 t280 t283 false).bind fun t286 => (hatstandlaw3_GlyphBack.j2 k2 t272 bt275.1 t277 (!t286))))) else (hatstandlaw3_GlyphBack.j2 k2 t272 bt275.1 t277 true)))) = some r := H
              have A12 := Aside0.mk A120
              clear A120
              replace H := Option.bind_eq_some_iff.mp H
              obtain ⟨⟨t275, t276⟩, A130, H⟩ := H
              replace H : ((glyph_Parse.f t275).bind fun t277 => (if t276 = 0 then ((hatstandlaw3_as.f k2 t277).bind fun t280 => ((hatstandlaw3_as.f k2 t272).bind fun t283 => ((hatstandref3_Same.f k2 t280 t283 false).bind fun t286 => (hatstandlaw3_GlyphBack.j2 k2 t272 t275 t277 (!t286))))) else (hatstandlaw3_GlyphBack.j2 k2 t272 t275 t277 true))) = some r := H
              have A13 := Aside0.mk A130
              clear A130
              replace H := Option.bind_eq_some_iff.mp H
              obtain ⟨t277, A140, H⟩ := H
              replace H : (if t276 = 0 then ((hatstandlaw3_as.f k2 t277).bind fun t280 => ((hatstandlaw3_as.f k2 t272).bind fun t283 => ((hatstandref3_Same.f k2 t280 t283 false).bind fun t286 => (hatstandlaw3_GlyphBack.j2 k2 t272 t275 t277 (!t286))))) else (hatstandlaw3_GlyphBack.j2 k2 t272 t275 t277 true)) = some r := H
              have A14 := Aside0.mk A140
              clear A140
              have HC15 := Aside0.mk H
              clear H
              go_upto_region 12 with (first | ((with_reducible refine gate_callee (f := 17) rfl ?_); refine goesL_ (some 43) rfl rfl Tryd.func17 (by kernel_rfl) rfl #[.slice A0 l0.length c0, .slice A1 l1.length c1] rfl (by (try simp only [List.map_toArray, List.map_cons, List.map_nil]); first | done | rfl | (simp only [List.length_drop, List.length_take]; rfl)) ?_; (with_reducible refine (hatstandlaw3_made.calls k2 _ _ l0 (fun k_ => k_ < w.heap.size) _ _ l1 t272 _ ?side1 ?side2 ?side3 A12.out).mono ?_); (case side1 => repeat (first | exact (Kd.C_below HR0.out HB.out) | (with_reducible refine Kd.C_alloc ?_ _) | (with_reducible refine Kd.C_drewN ?_ _) | (with_reducible refine Kd.C_drew ?_))); (case side2 => exact HC0.out); (case side3 => exact Kd.V_mk HC1.out (Kd.F_below (Kd.C_F (Kd.heap_slice 51 (Kd.heap_int .u64)) HR1.out) (by repeat (first | (with_reducible first | exact HB.out | apply below_alloc | apply pw_below_drewN | apply below_drew1) | exact HB.out)))); rintro e w16 ⟨v273, rfl, ho0, hb⟩; refine ⟨_, rfl, ?_⟩; have n0_ := Aside0.mk (Kd.N_lower (Kd.N_mono (ok' := fun k_ => True) ho0 (fun k_ hk_ => trivial)) (below_size (by repeat (first | (with_reducible first | exact HB.out | apply below_alloc | apply pw_below_drewN | apply below_drew1) | exact HB.out)))); have n1_ := Aside0.mk (below_step (by repeat (first | (with_reducible first | exact HB.out | apply below_alloc | apply pw_below_drewN | apply below_drew1) | exact HB.out)) hb); clear HB; have HO274 := n0_; have HB := n1_; clear n0_ n1_; (try clear hb); (try clear hb2); (try clear hk); (try clear hi); (try clear ho0); obtain ⟨Ao17, co17, eo17⟩ := Kd.N_slice HO274.out; subst eo17) | ((with_reducible refine gate_callee (f := 14) rfl ?_); refine goesL_ (some 46) rfl rfl Tryd.func14 (by kernel_rfl) rfl #[.slice Ao17 t272.length co17] rfl (by (try simp only [List.map_toArray, List.map_cons, List.map_nil]); first | done | rfl | (simp only [List.length_drop, List.length_take]; rfl)) ?_; (with_reducible refine (glyph_Put.calls _ _ t272 t275 t276 _ ?side1 ?side2 ?side3 A13.out).mono ?_); (case side1 => repeat (first | exact (Kd.N_reads' HO274.out).2.2 | (with_reducible refine Kd.C_alloc ?_ _) | (with_reducible refine Kd.C_drewN ?_ _) | (with_reducible refine Kd.C_drew ?_))); (case side2 => exact (Kd.N_reads' HO274.out).2.1); (case side3 => exact GG_at hG (by repeat (first | (with_reducible first | exact HB.out | apply below_alloc | apply pw_below_drewN | apply below_drew1) | exact HB.out))); rintro e w18 ⟨rfl, hb⟩; refine ⟨_, rfl, ?_⟩; have n0_ := Aside0.mk (Kd.N_below (by (with_reducible repeat (first | apply Kd.N_alloc | apply Kd.N_drewN | apply Kd.N_drew)); exact HO274.out) hb); have n1_ := Aside0.mk (below_step (by repeat (first | (with_reducible first | exact HB.out | apply below_alloc | apply pw_below_drewN | apply below_drew1) | exact HB.out)) hb); clear HO274; clear HB; have HO274 := n0_; have HB := n1_; clear n0_ n1_; (try clear hb); (try clear hb2); (try clear hk); (try clear hi)) | ((with_reducible refine gate_callee (f := 12) rfl ?_); refine goesL_ (some 50) rfl rfl Tryd.func12 (by kernel_rfl) rfl #[.string t275] rfl (by (try simp only [List.map_toArray, List.map_cons, List.map_nil]); first | done | rfl | (simp only [List.length_drop, List.length_take]; rfl)) ?_; (with_reducible refine (glyph_Parse.calls t275 t277 _ ?side1 A14.out).mono ?_); (case side1 => exact GG_at hG (by repeat (first | (with_reducible first | exact HB.out | apply below_alloc | apply pw_below_drewN | apply below_drew1) | exact HB.out))); rintro e w19 ⟨v278, rfl, ho0, hb⟩; refine ⟨_, rfl, ?_⟩; have n0_ := Aside0.mk (Kd.N_elder' (by (with_reducible repeat (first | apply Kd.N_alloc | apply Kd.N_drewN | apply Kd.N_drew)); exact HO274.out) (Kd.N_base ho0) hb); have n1_ := Aside0.mk (Kd.N_lower (Kd.N_mono (ok' := fun k_ => some k_ ≠ (.slice Ao17 t272.length co17 : Value).ownBlock) ho0 (fun k_ hk_ => (Kd.fresh' (Kd.N_lt (by (with_reducible repeat (first | apply Kd.N_alloc | apply Kd.N_drewN | apply Kd.N_drew)); exact HO274.out)) k_ hk_))) (below_size (by repeat (first | (with_reducible first | exact HB.out | apply below_alloc | apply pw_below_drewN | apply below_drew1) | exact HB.out)))); have n2_ := Aside0.mk (below_step (by repeat (first | (with_reducible first | exact HB.out | apply below_alloc | apply pw_below_drewN | apply below_drew1) | exact HB.out)) hb); clear HO274; clear HB; have HO274 := n0_; have HO279 := n1_; have HB := n2_; clear n0_ n1_ n2_; (try clear hb); (try clear hb2); (try clear hk); (try clear hi); (try clear ho0)))
              (try simp only [Act.put, List.setIfInBounds_toArray, List.set_cons_zero, List.set_cons_succ])
              go_cut [60] (fun v60 wc => ∃ (kq : Nat) (x60_14 : Bool), v60 = .bool x60_14 ∧ Aside0 (hatstandlaw3_GlyphBack.j2 kq t272 t275 t277 x60_14 = some r) ∧ Aside0 (kq ≤ k2) ∧ Aside0 (Kd.N k33 33 wc w.heap.size (fun k_ => some k_ ≠ (v278 : Value).ownBlock) (.slice Ao17 t272.length co17) t272) ∧ Aside0 (Kd.N k33 33 wc w.heap.size (fun k_ => some k_ ≠ ((.slice Ao17 t272.length co17) : Value).ownBlock) v278 t277) ∧ Aside0 (Below w.heap.size w wc))
              case first =>
                have H := HC15.out
                clear HC15
                by_cases c20 : t276 = 0
                · rw [if_pos c20] at H
                  have c20b0 : (t276 == 0) = true := beq_iff_eq.mpr c20
                  have c20b1 : (t276 != 0) = false := bne_eq_false_iff_eq.mpr c20
                  clear c20
                  (first | rw [c20b0] | (simp only [i64_w, i32_w]; rw [c20b0]) | skip)
                  replace H := Option.bind_eq_some_iff.mp H
                  obtain ⟨t280, A210, H⟩ := H
                  replace H : ((hatstandlaw3_as.f k2 t272).bind fun t283 => ((hatstandref3_Same.f k2 t280 t283 false).bind fun t286 => (hatstandlaw3_GlyphBack.j2 k2 t272 t275 t277 (!t286)))) = some r := H
                  have A21 := Aside0.mk A210
                  clear A210
                  replace H := Option.bind_eq_some_iff.mp H
                  obtain ⟨t283, A220, H⟩ := H
                  replace H : ((hatstandref3_Same.f k2 t280 t283 false).bind fun t286 => (hatstandlaw3_GlyphBack.j2 k2 t272 t275 t277 (!t286))) = some r := H
                  have A22 := Aside0.mk A220
                  clear A220
                  replace H := Option.bind_eq_some_iff.mp H
                  obtain ⟨t286, A230, H⟩ := H
                  replace H : (hatstandlaw3_GlyphBack.j2 k2 t272 t275 t277 (!t286)) = some r := H
                  have A23 := Aside0.mk A230
                  clear A230
                  have H' := Aside0.mk H
                  clear H
                  obtain ⟨Ao24, co24, eo24⟩ := Kd.N_slice HO279.out
                  subst eo24
                  go_wp2_with (first | (go_at_call 11; (with_reducible refine (hatstandlaw3_as.calls k2 (fun k_ => some k_ ≠ (.slice Ao17 t272.length co17 : Value).ownBlock) _ _ t277 t280 _ ?side1 A21.out).mono ?_); (case side1 => exact Kd.N_V (HO279.out)); rintro e w25 ⟨v281, rfl, ho0, hb⟩; have n0_ := Aside0.mk (Kd.N_elder' (by (with_reducible repeat (first | apply Kd.N_alloc | apply Kd.N_drewN | apply Kd.N_drew)); exact HO274.out) (Kd.N_base ho0) hb); have n1_ := Aside0.mk (Kd.N_elder' (by (with_reducible repeat (first | apply Kd.N_alloc | apply Kd.N_drewN | apply Kd.N_drew)); exact HO279.out) (Kd.N_base ho0) hb); have n2_ := Aside0.mk (Kd.N_lower (Kd.N_mono (ok' := fun k_ => some k_ ≠ (.slice Ao17 t272.length co17 : Value).ownBlock) ho0 (fun k_ hk_ => Or.elim hk_ (fun hs_ => hs_) (fun hn_ => (Kd.fresh' (Kd.N_lt (by (with_reducible repeat (first | apply Kd.N_alloc | apply Kd.N_drewN | apply Kd.N_drew)); exact HO274.out)) k_ hn_)))) (below_size (by repeat (first | (with_reducible first | exact HB.out | apply below_alloc | apply pw_below_drewN | apply below_drew1) | exact HB.out)))); have n3_ := Aside0.mk (below_step (by repeat (first | (with_reducible first | exact HB.out | apply below_alloc | apply pw_below_drewN | apply below_drew1) | exact HB.out)) hb); clear HO274; clear HO279; clear HB; have HO274 := n0_; have HO279 := n1_; have HO282 := n2_; have HB := n3_; clear n0_ n1_ n2_ n3_; (try clear hb); (try clear hb2); (try clear hk); (try clear hi); (try clear ho0)) | (go_at_call 11; (with_reducible refine (hatstandlaw3_as.calls k2 (fun k_ => ((True ∧ some k_ ≠ (.slice Ao24 t277.length co24 : Value).ownBlock) ∧ some k_ ≠ (v281 : Value).ownBlock)) _ _ t272 t283 _ ?side1 A22.out).mono ?_); (case side1 => exact Kd.N_V (HO274.out)); rintro e w26 ⟨v284, rfl, ho0, hb⟩; have n0_ := Aside0.mk (Kd.N_elder' (by (with_reducible repeat (first | apply Kd.N_alloc | apply Kd.N_drewN | apply Kd.N_drew)); exact HO274.out) (Kd.N_base ho0) hb); have n1_ := Aside0.mk (Kd.N_elder' (by (with_reducible repeat (first | apply Kd.N_alloc | apply Kd.N_drewN | apply Kd.N_drew)); exact HO279.out) (Kd.N_base ho0) hb); have n2_ := Aside0.mk (Kd.N_elder' (by (with_reducible repeat (first | apply Kd.N_alloc | apply Kd.N_drewN | apply Kd.N_drew)); exact HO282.out) (Kd.N_base ho0) hb); have n3_ := Aside0.mk (Kd.N_lower (Kd.N_mono (ok' := fun k_ => some k_ ≠ (.slice Ao24 t277.length co24 : Value).ownBlock ∧ some k_ ≠ (v281 : Value).ownBlock) ho0 (fun k_ hk_ => ⟨Or.elim hk_ (fun hs_ => hs_.1.2) (fun hn_ => (Kd.fresh' (Kd.N_lt (by (with_reducible repeat (first | apply Kd.N_alloc | apply Kd.N_drewN | apply Kd.N_drew)); exact HO279.out)) k_ hn_)), Or.elim hk_ (fun hs_ => hs_.2) (fun hn_ => (Kd.fresh' (Kd.N_lt (by (with_reducible repeat (first | apply Kd.N_alloc | apply Kd.N_drewN | apply Kd.N_drew)); exact HO282.out)) k_ hn_))⟩)) (below_size (by repeat (first | (with_reducible first | exact HB.out | apply below_alloc | apply pw_below_drewN | apply below_drew1) | exact HB.out)))); have n4_ := Aside0.mk (below_step (by repeat (first | (with_reducible first | exact HB.out | apply below_alloc | apply pw_below_drewN | apply below_drew1) | exact HB.out)) hb); clear HO274; clear HO279; clear HO282; clear HB; have HO274 := n0_; have HO279 := n1_; have HO282 := n2_; have HO285 := n3_; have HB := n4_; clear n0_ n1_ n2_ n3_ n4_; (try clear hb); (try clear hb2); (try clear hk); (try clear hi); (try clear ho0); obtain ⟨Ao27, co27, eo27⟩ := Kd.N_slice HO282.out; subst eo27; obtain ⟨Ao28, co28, eo28⟩ := Kd.N_slice HO285.out; subst eo28) | (go_at_call 13; (with_reducible refine (hatstandref3_Same.calls k2 _ _ t280 _ _ t283 false t286 _ ?side1 ?side2 ?side3 ?side4 A23.out).mono ?_); (case side1 => repeat (first | exact (Kd.N_reads' HO282.out).2.2 | (with_reducible refine Kd.C_alloc ?_ _) | (with_reducible refine Kd.C_drewN ?_ _) | (with_reducible refine Kd.C_drew ?_))); (case side2 => exact (Kd.N_reads' HO282.out).2.1); (case side3 => repeat (first | exact (Kd.N_reads' HO285.out).2.2 | (with_reducible refine Kd.C_alloc ?_ _) | (with_reducible refine Kd.C_drewN ?_ _) | (with_reducible refine Kd.C_drew ?_))); (case side4 => exact (Kd.N_reads' HO285.out).2.1); rintro e w' ⟨rfl, ⟨nd, rfl⟩⟩))
                  go_meet
                  case rel => exact ⟨_, (!t286), (by first | rfl | (simp; done) | (simp [*]; done) | exact isEmpty_bne _), H', ⟨by have := HJ3.out; have := HK2.out; first | omega | exact Nat.le_refl _⟩, ⟨by (with_reducible repeat (first | apply Kd.N_alloc | apply Kd.N_drewN | apply Kd.N_drew)); exact Kd.N_mono HO274.out (fun _ hk => hk.1.1.2)⟩, ⟨by (with_reducible repeat (first | apply Kd.N_alloc | apply Kd.N_drewN | apply Kd.N_drew)); exact Kd.N_mono HO279.out (fun _ hk => hk.1.1)⟩, ⟨by repeat (first | (with_reducible first | exact HB.out | apply below_alloc | apply pw_below_drewN | apply below_drew1) | exact HB.out)⟩⟩
                · rw [if_neg c20] at H
                  have c20b0 : (t276 == 0) = false := beq_eq_false_iff_ne.mpr c20
                  have c20b1 : (t276 != 0) = true := bne_iff_ne.mpr c20
                  (first | rw [c20b0] | (simp only [i64_w, i32_w]; rw [c20b0]) | skip)
                  have H' := Aside0.mk H
                  clear H
                  go_wp2
                  go_meet
                  case rel => exact ⟨_, (true), (by first | rfl | (simp; done) | (simp [*]; done) | exact isEmpty_bne _), H', ⟨by have := HJ3.out; have := HK2.out; first | omega | exact Nat.le_refl _⟩, ⟨by (with_reducible repeat (first | apply Kd.N_alloc | apply Kd.N_drewN | apply Kd.N_drew)); exact Kd.N_mono HO274.out (fun _ hk => by first | exact hk.2 | exact hk)⟩, ⟨by (with_reducible repeat (first | apply Kd.N_alloc | apply Kd.N_drewN | apply Kd.N_drew)); exact HO279.out⟩, ⟨by repeat (first | (with_reducible first | exact HB.out | apply below_alloc | apply pw_below_drewN | apply below_drew1) | exact HB.out)⟩⟩
              case rest =>
                clear HC15
                try clear c1
                try clear c2
                try clear p2
                try clear q2
                try clear hx2
                try clear c6
                try clear p6
                try clear c7
                try clear c7b0
                try clear c7b1
                try clear c8
                try clear c9
                try clear c9b0
                try clear c10
                try clear c10b0
                try clear c11
                try clear c11b0
                try clear c11b1
                try clear c12
                try clear c14
                try clear c17
                try clear c20
                try clear c20b0
                try clear c20b1
                try clear c27
                try clear p27
                try clear q27
                try clear hx27
                try clear hx271_0
                try clear p2
                try clear p271
                try clear q271
                obtain ⟨kq, x60_14, rfl, HA, HJ14, HO_7, HO_10, HB⟩ := hcut
                cases kq with
                | zero => exact absurd HA.out (by simp [hatstandlaw3_GlyphBack.j2])
                | succ kj14 =>
                  have H := HA.out
                  clear HA
                  simp only [hatstandlaw3_GlyphBack.j2] at H
                  by_cases c29 : x60_14 = true
                  · subst c29
                    have H1 : (some false) = some r := by rw [if_pos rfl] at H; exact H
                    clear H
                    have H := H1
                    clear H1
                    obtain rfl := Option.some.inj H
                    go_wp2
                    go_ret
                    exact ⟨by first | rfl | (simp [errW_none, errW_some] <;> rfl) | (simp [*, errW_none, errW_some] <;> rfl), by repeat (first | (with_reducible first | exact HB.out | apply below_alloc | apply pw_below_drewN | apply below_drew1) | exact HB.out)⟩
                  · replace c29 := Bool.eq_false_iff.mpr c29
                    subst c29
                    have H1 : (hatstandlaw3_GlyphBack.l1 kj14 t272 t275 t277 0) = some r := by rw [if_neg (show ¬ (false = true) by decide)] at H; exact H
                    clear H
                    have H := H1
                    clear H1
                    have H' := Aside0.mk H
                    clear H
                    go_wp2
                    go_loopg [11] kj14 (fun kq v11 w' => ∃ (x11_4 : Int), v11 = .int .i64 x11_4 ∧ Aside0 (hatstandlaw3_GlyphBack.l1 kq t272 t275 t277 x11_4 = some r) ∧ Aside0 (kq ≤ kj14) ∧ Aside0 (Kd.N k33 33 w' w.heap.size (fun k_ => some k_ ≠ (v278 : Value).ownBlock) (.slice Ao17 t272.length co17) t272) ∧ Aside0 (Kd.N k33 33 w' w.heap.size (fun k_ => some k_ ≠ ((.slice Ao17 t272.length co17) : Value).ownBlock) v278 t277) ∧ Aside0 (Below w.heap.size w w'))
                    case atStart => exact ⟨(0), (by first | rfl | (simp; done) | (simp [*]; done) | exact isEmpty_bne _), H', ⟨Nat.le_refl _⟩, ⟨by (with_reducible repeat (first | apply Kd.N_alloc | apply Kd.N_drewN | apply Kd.N_drew)); exact HO_7.out⟩, ⟨by (with_reducible repeat (first | apply Kd.N_alloc | apply Kd.N_drewN | apply Kd.N_drew)); exact HO_10.out⟩, ⟨by repeat (first | (with_reducible first | exact HB.out | apply below_alloc | apply pw_below_drewN | apply below_drew1) | exact HB.out)⟩⟩
                    case round =>
                      clear H'
                      try clear c1
                      try clear c2
                      try clear p2
                      try clear q2
                      try clear hx2
                      try clear c6
                      try clear p6
                      try clear c7
                      try clear c7b0
                      try clear c7b1
                      try clear c8
                      try clear c9
                      try clear c9b0
                      try clear c10
                      try clear c10b0
                      try clear c11
                      try clear c11b0
                      try clear c11b1
                      try clear c12
                      try clear c14
                      try clear c17
                      try clear c20
                      try clear c20b0
                      try clear c20b1
                      try clear c27
                      try clear p27
                      try clear q27
                      try clear hx27
                      try clear c29
                      try clear hx271_0
                      try clear p2
                      try clear p27
                      try clear p271
                      try clear p6
                      try clear q2
                      try clear q27
                      try clear q271
                      obtain ⟨x11_4, rfl, HA, HK4, HO_7, HO_10, HB⟩ := hrel
                      cases gk with
                      | zero => exact absurd HA.out (by simp [hatstandlaw3_GlyphBack.l1])
                      | succ k4 =>
                        have H := HA.out
                        clear HA
                        simp only [hatstandlaw3_GlyphBack.l1] at H
                        by_cases c30 : x11_4 < (t277.length : Int)
                        · rw [if_pos c30] at H
                          have c30b0 : decide (x11_4 < (t277.length : Int)) = true := decide_eq_true c30
                          clear c30
                          have HC31 := Aside0.mk H
                          clear H
                          obtain ⟨Ao32, co32, eo32⟩ := Kd.N_slice HO_10.out
                          subst eo32
                          go_upto_if 73 with (fail)
                          go_cut [12] (fun v12 wc => ∃ (kq : Nat) (x12_30 : Int), v12 = .int .i64 x12_30 ∧ Aside0 (hatstandlaw3_GlyphBack.j4 kq t272 t275 t277 x11_4 x12_30 = some r) ∧ Aside0 (kq ≤ k4) ∧ Aside0 (Kd.N k33 33 wc w.heap.size (fun k_ => some k_ ≠ ((.slice Ao32 t277.length co32) : Value).ownBlock) (.slice Ao17 t272.length co17) t272) ∧ Aside0 (Kd.N k33 33 wc w.heap.size (fun k_ => some k_ ≠ ((.slice Ao17 t272.length co17) : Value).ownBlock) (.slice Ao32 t277.length co32) t277) ∧ Aside0 (Below w.heap.size w wc))
                          case first =>
                            have H := HC31.out
                            clear HC31
                            by_cases c33 : (wrap64 (x11_4 + 1)) < (t277.length : Int)
                            · rw [if_pos c33] at H
                              have c33b0 : decide ((wrap64 (x11_4 + 1)) < (t277.length : Int)) = true := decide_eq_true c33
                              clear c33
                              (first | rw [c33b0] | (simp only [i64_w, i32_w]; rw [c33b0]) | skip)
                              obtain ⟨ji34, hji34⟩ : ∃ j_ : Int, (wrap64 (x11_4 + 1)) = j_ := ⟨_, rfl⟩
                              replace H : (if 0 ≤ (ji34) then (hatstandlaw3_GlyphBack.j4 k4 t272 t275 t277 x11_4 ((rd_T33 t277 (ji34)).f3)) else (none)) = some r := by first | (rw [hji34] at H; exact H) | (simp only [hji34] at H ⊢; exact H)
                              (try rw [hji34] at c33b0)
                              have hji34w : (IntKind.i64.wrap (x11_4 + 1)) = ji34 := (i64_w _).trans hji34
                              by_cases c35 : 0 ≤ (ji34)
                              · rw [if_pos c35] at H
                                have c35b0 : decide (0 ≤ (ji34)) = true := decide_eq_true c35
                                clear c35
                                have H' := Aside0.mk H
                                clear H
                                have p287 : 0 ≤ ((ji34) : Int) := of_decide_eq_true (by first | (with_reducible assumption) | assumption)
                                have q287 : (ji34) < (t277.length : Int) := of_decide_eq_true (by first | (with_reducible assumption) | assumption)
                                obtain ⟨ad287, A287_1, c287_1, e287, hx287_0, hx287_1, hx287_2, hx287_3, hl287_1, hi287_1⟩ := at_T33 (Kd.N_reads' HO_10.out).2.2 (ji34) p287 q287
                                cases e287
                                obtain ⟨ce287, hce287, hMe287, hcc287⟩ := Kd.N_get HO_10.out z33 (ji34) p287 (by first | exact q287 | exact of_decide_eq_true (by first | (with_reducible assumption) | assumption) | (have e_ := (Kd.N_reads' HO_10.out).1; omega))
                                obtain ⟨ua287_1, uc287_1, rfl, ul287_1, ge287_1⟩ := k33_openF hMe287
                                have hv287_1 := hcc287 1 _ rfl
                                rw [add_field _ _ 1 (by omega)] at hv287_1
                                replace hv287_1 := Option.some.inj (hv287_1.symm.trans hx287_1)
                                injection hv287_1 with hva_ hvn_ hvc_
                                rw [hva_] at ge287_1
                                rw [hvc_] at ul287_1
                                have HL287_1 := Aside0.mk (show Kd.V (Kd.int .u64) 51 _ w.heap.size _ _ ((rd_T33 t277 (ji34)).f1) from Kd.V_mk ul287_1 ge287_1)
                                clear hva_ hvn_ hvc_ ge287_1 ul287_1
                                clear hcc287 hce287
                                have HR287_1 := Aside0.mk hi287_1
                                have HC287_1 := Aside0.mk hl287_1
                                clear hi287_1 hl287_1
                                replace p287 := eq_true p287
                                replace q287 := eq_true q287
                                go_wp2
                                go_meet
                                case rel => exact ⟨_, ((rd_T33 t277 (ji34)).f3), (by first | rfl | (simp; done) | (simp only [← hji34] <;> (first | rfl | simp)) | (simp [*]; done)), H', ⟨by have := HJ3.out; have := HK2.out; have := HJ14.out; have := HK4.out; first | omega | exact Nat.le_refl _⟩, ⟨by (with_reducible repeat (first | apply Kd.N_alloc | apply Kd.N_drewN | apply Kd.N_drew)); exact HO_7.out⟩, ⟨by (with_reducible repeat (first | apply Kd.N_alloc | apply Kd.N_drewN | apply Kd.N_drew)); exact HO_10.out⟩, ⟨by repeat (first | (with_reducible first | exact HB.out | apply below_alloc | apply pw_below_drewN | apply below_drew1) | exact HB.out)⟩⟩
                              · rw [if_neg c35] at H
                                exact absurd H (by simp)
                            · rw [if_neg c33] at H
                              have c33b0 : decide ((wrap64 (x11_4 + 1)) < (t277.length : Int)) = false := decide_eq_false c33
                              clear c33
                              (first | rw [c33b0] | (simp only [i64_w, i32_w]; rw [c33b0]) | skip)
                              have H' := Aside0.mk H
                              clear H
                              go_wp2
                              go_meet
                              case rel => exact ⟨_, ((t275.size : Int)), (by first | rfl | (simp; done) | (simp [*]; done) | exact isEmpty_bne _), H', ⟨by have := HJ3.out; have := HK2.out; have := HJ14.out; have := HK4.out; first | omega | exact Nat.le_refl _⟩, ⟨by (with_reducible repeat (first | apply Kd.N_alloc | apply Kd.N_drewN | apply Kd.N_drew)); exact HO_7.out⟩, ⟨by (with_reducible repeat (first | apply Kd.N_alloc | apply Kd.N_drewN | apply Kd.N_drew)); exact HO_10.out⟩, ⟨by repeat (first | (with_reducible first | exact HB.out | apply below_alloc | apply pw_below_drewN | apply below_drew1) | exact HB.out)⟩⟩
                          case rest =>
                            clear HC31
                            try clear c1
                            try clear c2
                            try clear p2
                            try clear q2
                            try clear hx2
                            try clear c3
                            try clear c6
                            try clear p6
                            try clear c7
                            try clear c7b0
                            try clear c7b1
                            try clear c8
                            try clear c9
                            try clear c9b0
                            try clear c10
                            try clear c10b0
                            try clear c11
                            try clear c11b0
                            try clear c11b1
                            try clear c12
                            try clear c14
                            try clear c17
                            try clear c20
                            try clear c20b0
                            try clear c20b1
                            try clear c27
                            try clear p27
                            try clear q27
                            try clear hx27
                            try clear c28
                            try clear p28
                            try clear q28
                            try clear hx28
                            try clear c29
                            try clear c30
                            try clear c30b0
                            try clear c33
                            try clear c33b0
                            try clear c35
                            try clear c35b0
                            try clear hx271_0
                            try clear hx287_0
                            try clear hx287_1
                            try clear hx287_2
                            try clear hx287_3
                            try clear p2
                            try clear p27
                            try clear p271
                            try clear p287
                            try clear p6
                            try clear q2
                            try clear q27
                            try clear q271
                            try clear q287
                            obtain ⟨kq, x12_30, rfl, HA, HJ30, HO_7, HO_10, HB⟩ := hcut
                            cases kq with
                            | zero => exact absurd HA.out (by simp [hatstandlaw3_GlyphBack.j4])
                            | succ kj30 =>
                              have H := HA.out
                              clear HA
                              simp only [hatstandlaw3_GlyphBack.j4] at H
                              have HC36 := Aside0.mk H
                              clear H
                              go_upto_region 20 with (fail)
                              go_cut [100] (fun v100 wc => ∃ (kq : Nat) (x100_35 : Bool), v100 = .bool x100_35 ∧ Aside0 (hatstandlaw3_GlyphBack.j5 kq t272 t275 t277 x11_4 x12_30 x100_35 = some r) ∧ Aside0 (kq ≤ kj30) ∧ Aside0 (Kd.N k33 33 wc w.heap.size (fun k_ => some k_ ≠ ((.slice Ao32 t277.length co32) : Value).ownBlock) (.slice Ao17 t272.length co17) t272) ∧ Aside0 (Kd.N k33 33 wc w.heap.size (fun k_ => some k_ ≠ ((.slice Ao17 t272.length co17) : Value).ownBlock) (.slice Ao32 t277.length co32) t277) ∧ Aside0 (Below w.heap.size w wc))
                              case first =>
                                have H := HC36.out
                                clear HC36
                                by_cases c37 : 0 ≤ x11_4
                                · rw [if_pos c37] at H
                                  have c37b0 : decide (0 ≤ x11_4) = true := decide_eq_true c37
                                  clear c37
                                  (first | rw [c37b0] | (simp only [i64_w, i32_w]; rw [c37b0]) | skip)
                                  by_cases c38 : x11_4 < (t277.length : Int)
                                  · rw [if_pos c38] at H
                                    have c38b0 : decide (x11_4 < (t277.length : Int)) = true := decide_eq_true c38
                                    clear c38
                                    by_cases c39 : ((rd_T33 t277 x11_4).f3) < 0
                                    · rw [if_pos c39] at H
                                      have c39b0 : decide (((rd_T33 t277 x11_4).f3) < 0) = true := decide_eq_true c39
                                      clear c39
                                      have H' := Aside0.mk H
                                      clear H
                                      have p288 : 0 ≤ (x11_4 : Int) := of_decide_eq_true (by first | (with_reducible assumption) | assumption)
                                      have q288 : x11_4 < (t277.length : Int) := of_decide_eq_true (by first | (with_reducible assumption) | assumption)
                                      obtain ⟨ad288, A288_1, c288_1, e288, hx288_0, hx288_1, hx288_2, hx288_3, hl288_1, hi288_1⟩ := at_T33 (Kd.N_reads' HO_10.out).2.2 x11_4 p288 q288
                                      cases e288
                                      obtain ⟨ce288, hce288, hMe288, hcc288⟩ := Kd.N_get HO_10.out z33 x11_4 p288 (by first | exact q288 | exact of_decide_eq_true (by first | (with_reducible assumption) | assumption) | (have e_ := (Kd.N_reads' HO_10.out).1; omega))
                                      obtain ⟨ua288_1, uc288_1, rfl, ul288_1, ge288_1⟩ := k33_openF hMe288
                                      have hv288_1 := hcc288 1 _ rfl
                                      rw [add_field _ _ 1 (by omega)] at hv288_1
                                      replace hv288_1 := Option.some.inj (hv288_1.symm.trans hx288_1)
                                      injection hv288_1 with hva_ hvn_ hvc_
                                      rw [hva_] at ge288_1
                                      rw [hvc_] at ul288_1
                                      have HL288_1 := Aside0.mk (show Kd.V (Kd.int .u64) 51 _ w.heap.size _ _ ((rd_T33 t277 x11_4).f1) from Kd.V_mk ul288_1 ge288_1)
                                      clear hva_ hvn_ hvc_ ge288_1 ul288_1
                                      clear hcc288 hce288
                                      have HR288_1 := Aside0.mk hi288_1
                                      have HC288_1 := Aside0.mk hl288_1
                                      clear hi288_1 hl288_1
                                      replace p288 := eq_true p288
                                      replace q288 := eq_true q288
                                      go_wp2
                                      go_meet
                                      case rel => exact ⟨_, (true), (by first | rfl | (simp; done) | (simp [*]; done) | exact isEmpty_bne _), H', ⟨by have := HJ3.out; have := HK2.out; have := HJ14.out; have := HK4.out; have := HJ30.out; first | omega | exact Nat.le_refl _⟩, ⟨by (with_reducible repeat (first | apply Kd.N_alloc | apply Kd.N_drewN | apply Kd.N_drew)); exact HO_7.out⟩, ⟨by (with_reducible repeat (first | apply Kd.N_alloc | apply Kd.N_drewN | apply Kd.N_drew)); exact HO_10.out⟩, ⟨by repeat (first | (with_reducible first | exact HB.out | apply below_alloc | apply pw_below_drewN | apply below_drew1) | exact HB.out)⟩⟩
                                    · rw [if_neg c39] at H
                                      have c39b0 : decide (((rd_T33 t277 x11_4).f3) < 0) = false := decide_eq_false c39
                                      clear c39
                                      by_cases c40 : ((rd_T33 t277 x11_4).f3) ≥ x12_30
                                      · rw [if_pos c40] at H
                                        have c40b0 : decide (x12_30 ≤ ((rd_T33 t277 x11_4).f3)) = true := decide_eq_true c40
                                        clear c40
                                        have H' := Aside0.mk H
                                        clear H
                                        have p288 : 0 ≤ (x11_4 : Int) := of_decide_eq_true (by first | (with_reducible assumption) | assumption)
                                        have q288 : x11_4 < (t277.length : Int) := of_decide_eq_true (by first | (with_reducible assumption) | assumption)
                                        obtain ⟨ad288, A288_1, c288_1, e288, hx288_0, hx288_1, hx288_2, hx288_3, hl288_1, hi288_1⟩ := at_T33 (Kd.N_reads' HO_10.out).2.2 x11_4 p288 q288
                                        cases e288
                                        obtain ⟨ce288, hce288, hMe288, hcc288⟩ := Kd.N_get HO_10.out z33 x11_4 p288 (by first | exact q288 | exact of_decide_eq_true (by first | (with_reducible assumption) | assumption) | (have e_ := (Kd.N_reads' HO_10.out).1; omega))
                                        obtain ⟨ua288_1, uc288_1, rfl, ul288_1, ge288_1⟩ := k33_openF hMe288
                                        have hv288_1 := hcc288 1 _ rfl
                                        rw [add_field _ _ 1 (by omega)] at hv288_1
                                        replace hv288_1 := Option.some.inj (hv288_1.symm.trans hx288_1)
                                        injection hv288_1 with hva_ hvn_ hvc_
                                        rw [hva_] at ge288_1
                                        rw [hvc_] at ul288_1
                                        have HL288_1 := Aside0.mk (show Kd.V (Kd.int .u64) 51 _ w.heap.size _ _ ((rd_T33 t277 x11_4).f1) from Kd.V_mk ul288_1 ge288_1)
                                        clear hva_ hvn_ hvc_ ge288_1 ul288_1
                                        clear hcc288 hce288
                                        have HR288_1 := Aside0.mk hi288_1
                                        have HC288_1 := Aside0.mk hl288_1
                                        clear hi288_1 hl288_1
                                        replace p288 := eq_true p288
                                        replace q288 := eq_true q288
                                        have p289 : 0 ≤ (x11_4 : Int) := of_decide_eq_true (by first | (with_reducible assumption) | assumption)
                                        have q289 : x11_4 < (t277.length : Int) := of_decide_eq_true (by first | (with_reducible assumption) | assumption)
                                        obtain ⟨ad289, A289_1, c289_1, e289, hx289_0, hx289_1, hx289_2, hx289_3, hl289_1, hi289_1⟩ := at_T33 (Kd.N_reads' HO_10.out).2.2 x11_4 p289 q289
                                        obtain rfl : ad288 = ad289 := (by injection e289)
                                        obtain ⟨ce289, hce289, hMe289, hcc289⟩ := Kd.N_get HO_10.out z33 x11_4 p289 (by first | exact q289 | exact of_decide_eq_true (by first | (with_reducible assumption) | assumption) | (have e_ := (Kd.N_reads' HO_10.out).1; omega))
                                        obtain ⟨ua289_1, uc289_1, rfl, ul289_1, ge289_1⟩ := k33_openF hMe289
                                        have hv289_1 := hcc289 1 _ rfl
                                        rw [add_field _ _ 1 (by omega)] at hv289_1
                                        replace hv289_1 := Option.some.inj (hv289_1.symm.trans hx289_1)
                                        injection hv289_1 with hva_ hvn_ hvc_
                                        rw [hva_] at ge289_1
                                        rw [hvc_] at ul289_1
                                        have HL289_1 := Aside0.mk (show Kd.V (Kd.int .u64) 51 _ w.heap.size _ _ ((rd_T33 t277 x11_4).f1) from Kd.V_mk ul289_1 ge289_1)
                                        clear hva_ hvn_ hvc_ ge289_1 ul289_1
                                        clear hcc289 hce289
                                        have HR289_1 := Aside0.mk hi289_1
                                        have HC289_1 := Aside0.mk hl289_1
                                        clear hi289_1 hl289_1
                                        replace p289 := eq_true p289
                                        replace q289 := eq_true q289
                                        have ea_ := Option.some.inj (hx288_1.symm.trans hx289_1)
                                        injection ea_ with ea_ en_ ec_
                                        subst ea_
                                        subst ec_
                                        clear en_
                                        go_wp2
                                        go_meet
                                        case rel => exact ⟨_, (true), (by first | rfl | (simp; done) | (simp [*]; done) | exact isEmpty_bne _), H', ⟨by have := HJ3.out; have := HK2.out; have := HJ14.out; have := HK4.out; have := HJ30.out; first | omega | exact Nat.le_refl _⟩, ⟨by (with_reducible repeat (first | apply Kd.N_alloc | apply Kd.N_drewN | apply Kd.N_drew)); exact HO_7.out⟩, ⟨by (with_reducible repeat (first | apply Kd.N_alloc | apply Kd.N_drewN | apply Kd.N_drew)); exact HO_10.out⟩, ⟨by repeat (first | (with_reducible first | exact HB.out | apply below_alloc | apply pw_below_drewN | apply below_drew1) | exact HB.out)⟩⟩
                                      · rw [if_neg c40] at H
                                        have c40b0 : decide (x12_30 ≤ ((rd_T33 t277 x11_4).f3)) = false := decide_eq_false c40
                                        clear c40
                                        have H' := Aside0.mk H
                                        clear H
                                        have p288 : 0 ≤ (x11_4 : Int) := of_decide_eq_true (by first | (with_reducible assumption) | assumption)
                                        have q288 : x11_4 < (t277.length : Int) := of_decide_eq_true (by first | (with_reducible assumption) | assumption)
                                        obtain ⟨ad288, A288_1, c288_1, e288, hx288_0, hx288_1, hx288_2, hx288_3, hl288_1, hi288_1⟩ := at_T33 (Kd.N_reads' HO_10.out).2.2 x11_4 p288 q288
                                        cases e288
                                        obtain ⟨ce288, hce288, hMe288, hcc288⟩ := Kd.N_get HO_10.out z33 x11_4 p288 (by first | exact q288 | exact of_decide_eq_true (by first | (with_reducible assumption) | assumption) | (have e_ := (Kd.N_reads' HO_10.out).1; omega))
                                        obtain ⟨ua288_1, uc288_1, rfl, ul288_1, ge288_1⟩ := k33_openF hMe288
                                        have hv288_1 := hcc288 1 _ rfl
                                        rw [add_field _ _ 1 (by omega)] at hv288_1
                                        replace hv288_1 := Option.some.inj (hv288_1.symm.trans hx288_1)
                                        injection hv288_1 with hva_ hvn_ hvc_
                                        rw [hva_] at ge288_1
                                        rw [hvc_] at ul288_1
                                        have HL288_1 := Aside0.mk (show Kd.V (Kd.int .u64) 51 _ w.heap.size _ _ ((rd_T33 t277 x11_4).f1) from Kd.V_mk ul288_1 ge288_1)
                                        clear hva_ hvn_ hvc_ ge288_1 ul288_1
                                        clear hcc288 hce288
                                        have HR288_1 := Aside0.mk hi288_1
                                        have HC288_1 := Aside0.mk hl288_1
                                        clear hi288_1 hl288_1
                                        replace p288 := eq_true p288
                                        replace q288 := eq_true q288
                                        have p289 : 0 ≤ (x11_4 : Int) := of_decide_eq_true (by first | (with_reducible assumption) | assumption)
                                        have q289 : x11_4 < (t277.length : Int) := of_decide_eq_true (by first | (with_reducible assumption) | assumption)
                                        obtain ⟨ad289, A289_1, c289_1, e289, hx289_0, hx289_1, hx289_2, hx289_3, hl289_1, hi289_1⟩ := at_T33 (Kd.N_reads' HO_10.out).2.2 x11_4 p289 q289
                                        obtain rfl : ad288 = ad289 := (by injection e289)
                                        obtain ⟨ce289, hce289, hMe289, hcc289⟩ := Kd.N_get HO_10.out z33 x11_4 p289 (by first | exact q289 | exact of_decide_eq_true (by first | (with_reducible assumption) | assumption) | (have e_ := (Kd.N_reads' HO_10.out).1; omega))
                                        obtain ⟨ua289_1, uc289_1, rfl, ul289_1, ge289_1⟩ := k33_openF hMe289
                                        have hv289_1 := hcc289 1 _ rfl
                                        rw [add_field _ _ 1 (by omega)] at hv289_1
                                        replace hv289_1 := Option.some.inj (hv289_1.symm.trans hx289_1)
                                        injection hv289_1 with hva_ hvn_ hvc_
                                        rw [hva_] at ge289_1
                                        rw [hvc_] at ul289_1
                                        have HL289_1 := Aside0.mk (show Kd.V (Kd.int .u64) 51 _ w.heap.size _ _ ((rd_T33 t277 x11_4).f1) from Kd.V_mk ul289_1 ge289_1)
                                        clear hva_ hvn_ hvc_ ge289_1 ul289_1
                                        clear hcc289 hce289
                                        have HR289_1 := Aside0.mk hi289_1
                                        have HC289_1 := Aside0.mk hl289_1
                                        clear hi289_1 hl289_1
                                        replace p289 := eq_true p289
                                        replace q289 := eq_true q289
                                        have ea_ := Option.some.inj (hx288_1.symm.trans hx289_1)
                                        injection ea_ with ea_ en_ ec_
                                        subst ea_
                                        subst ec_
                                        clear en_
                                        go_wp2
                                        go_meet
                                        case rel => exact ⟨_, (decide (x12_30 > (t275.size : Int))), (by first | rfl | (simp; done) | (simp [*]; done) | exact isEmpty_bne _), H', ⟨by have := HJ3.out; have := HK2.out; have := HJ14.out; have := HK4.out; have := HJ30.out; first | omega | exact Nat.le_refl _⟩, ⟨by (with_reducible repeat (first | apply Kd.N_alloc | apply Kd.N_drewN | apply Kd.N_drew)); exact HO_7.out⟩, ⟨by (with_reducible repeat (first | apply Kd.N_alloc | apply Kd.N_drewN | apply Kd.N_drew)); exact HO_10.out⟩, ⟨by repeat (first | (with_reducible first | exact HB.out | apply below_alloc | apply pw_below_drewN | apply below_drew1) | exact HB.out)⟩⟩
                                  · rw [if_neg c38] at H
                                    exact absurd H (by simp)
                                · rw [if_neg c37] at H
                                  exact absurd H (by simp)
                              case rest =>
                                clear HC36
                                try clear c1
                                try clear c2
                                try clear p2
                                try clear q2
                                try clear hx2
                                try clear c3
                                try clear c4
                                try clear c6
                                try clear p6
                                try clear c7
                                try clear c7b0
                                try clear c7b1
                                try clear c8
                                try clear c9
                                try clear c9b0
                                try clear c10
                                try clear c10b0
                                try clear c11
                                try clear c11b0
                                try clear c11b1
                                try clear c12
                                try clear c14
                                try clear c17
                                try clear c20
                                try clear c20b0
                                try clear c20b1
                                try clear c27
                                try clear p27
                                try clear q27
                                try clear hx27
                                try clear c28
                                try clear p28
                                try clear q28
                                try clear hx28
                                try clear c29
                                try clear c30
                                try clear c30b0
                                try clear c33
                                try clear c33b0
                                try clear c35
                                try clear c35b0
                                try clear c37
                                try clear c37b0
                                try clear c38
                                try clear c38b0
                                try clear c39
                                try clear c39b0
                                try clear c40
                                try clear c40b0
                                try clear hx271_0
                                try clear hx287_0
                                try clear hx287_1
                                try clear hx287_2
                                try clear hx287_3
                                try clear hx288_0
                                try clear hx288_1
                                try clear hx288_2
                                try clear hx288_3
                                try clear hx289_0
                                try clear hx289_1
                                try clear hx289_2
                                try clear hx289_3
                                try clear p2
                                try clear p27
                                try clear p271
                                try clear p28
                                try clear p287
                                try clear p288
                                try clear p289
                                try clear p6
                                try clear q2
                                try clear q27
                                try clear q271
                                try clear q28
                                try clear q287
                                try clear q288
                                try clear q289
                                obtain ⟨kq, x100_35, rfl, HA, HJ35, HO_7, HO_10, HB⟩ := hcut
                                cases kq with
                                | zero => exact absurd HA.out (by simp [hatstandlaw3_GlyphBack.j5])
                                | succ kj35 =>
                                  have H := HA.out
                                  clear HA
                                  simp only [hatstandlaw3_GlyphBack.j5] at H
                                  by_cases c41 : x100_35 = true
                                  · subst c41
                                    have H1 : (some false) = some r := by rw [if_pos rfl] at H; exact H
                                    clear H
                                    have H := H1
                                    clear H1
                                    obtain rfl := Option.some.inj H
                                    go_wp2
                                    go_ret
                                    exact ⟨by first | rfl | (simp [errW_none, errW_some] <;> rfl) | (simp [*, errW_none, errW_some] <;> rfl), by repeat (first | (with_reducible first | exact HB.out | apply below_alloc | apply pw_below_drewN | apply below_drew1) | exact HB.out)⟩
                                  · replace c41 := Bool.eq_false_iff.mpr c41
                                    subst c41
                                    have H1 : (if 0 ≤ x11_4 then (if x11_4 ≤ (wrap64 (x11_4 + 1)) then (if (wrap64 (x11_4 + 1)) ≤ (t272.length : Int) then ((glyph_Put.f ((t272.take ((wrap64 (x11_4 + 1)) : Int).toNat).drop (x11_4 : Int).toNat)).bind fun bt295 => (if bt295.2 = 0 then (if x11_4 < (t277.length : Int) then (if 0 ≤ ((rd_T33 t277 x11_4).f3) then (if ((rd_T33 t277 x11_4).f3) ≤ x12_30 then (if x12_30 ≤ (t275.size : Int) then (if (t275.extract (((rd_T33 t277 x11_4).f3) : Int).toNat (x12_30 : Int).toNat).toList = bt295.1.toList then (hatstandlaw3_GlyphBack.l1 kj35 t272 t275 t277 (wrap64 (x11_4 + 1))) else (some false)) else (none)) else (none)) else (none)) else (none)) else (some false))) else (none)) else (none)) else (none)) = some r := by rw [if_neg (show ¬ (false = true) by decide)] at H; exact H
                                    clear H
                                    have H := H1
                                    clear H1
                                    by_cases c42 : 0 ≤ x11_4
                                    · rw [if_pos c42] at H
                                      have c42b0 := eq_true c42
                                      have c42b1 : decide (0 ≤ x11_4) = true := decide_eq_true c42
                                      clear c42
                                      by_cases c43 : x11_4 ≤ (wrap64 (x11_4 + 1))
                                      · rw [if_pos c43] at H
                                        have c43b0 := eq_true c43
                                        have c43b1 : decide (x11_4 ≤ (wrap64 (x11_4 + 1))) = true := decide_eq_true c43
                                        by_cases c44 : (wrap64 (x11_4 + 1)) ≤ (t272.length : Int)
                                        · rw [if_pos c44] at H
                                          have c44b0 := eq_true c44
                                          have c44b1 : decide ((wrap64 (x11_4 + 1)) ≤ (t272.length : Int)) = true := decide_eq_true c44
                                          obtain ⟨y290, hy290⟩ : ∃ y_ : List (S33), y_ = ((t272.take ((wrap64 (x11_4 + 1)) : Int).toNat).drop (x11_4 : Int).toNat) := ⟨_, rfl⟩
                                          replace H : ((glyph_Put.f y290).bind fun bt295 => (if bt295.2 = 0 then (if x11_4 < (t277.length : Int) then (if 0 ≤ ((rd_T33 t277 x11_4).f3) then (if ((rd_T33 t277 x11_4).f3) ≤ x12_30 then (if x12_30 ≤ (t275.size : Int) then (if (t275.extract (((rd_T33 t277 x11_4).f3) : Int).toNat (x12_30 : Int).toNat).toList = bt295.1.toList then (hatstandlaw3_GlyphBack.l1 kj35 t272 t275 t277 (wrap64 (x11_4 + 1))) else (some false)) else (none)) else (none)) else (none)) else (none)) else (some false))) = some r := by first | (rw [hy290]; with_reducible exact H) | (have H2_ := (Option.bind_some _ _).symm.trans H; rw [hy290]; with_reducible exact H2_) | (have H2_ := (Option.bind_some _ _).symm.trans H; with_reducible exact H2_) | with_reducible exact H | (rw [hy290]; exact H) | exact H
                                          have Ny290 := Aside0.mk hy290
                                          clear hy290
                                          replace H := Option.bind_eq_some_iff.mp H
                                          obtain ⟨⟨t295, t296⟩, A450, H⟩ := H
                                          replace H : (if t296 = 0 then (if x11_4 < (t277.length : Int) then (if 0 ≤ ((rd_T33 t277 x11_4).f3) then (if ((rd_T33 t277 x11_4).f3) ≤ x12_30 then (if x12_30 ≤ (t275.size : Int) then (if (t275.extract (((rd_T33 t277 x11_4).f3) : Int).toNat (x12_30 : Int).toNat).toList = t295.toList then (hatstandlaw3_GlyphBack.l1 kj35 t272 t275 t277 (wrap64 (x11_4 + 1))) else (some false)) else (none)) else (none)) else (none)) else (none)) else (some false)) = some r := H
                                          have A45 := Aside0.mk A450
                                          clear A450
                                          by_cases c46 : t296 = 0
                                          · rw [if_pos c46] at H
                                            have c46b0 : (t296 == 0) = true := beq_iff_eq.mpr c46
                                            have c46b1 : (t296 != 0) = false := bne_eq_false_iff_eq.mpr c46
                                            clear c46
                                            by_cases c47 : x11_4 < (t277.length : Int)
                                            · rw [if_pos c47] at H
                                              have c47b0 : decide (x11_4 < (t277.length : Int)) = true := decide_eq_true c47
                                              clear c47
                                              by_cases c48 : 0 ≤ ((rd_T33 t277 x11_4).f3)
                                              · rw [if_pos c48] at H
                                                have c48b0 := eq_true c48
                                                have c48b1 : decide (0 ≤ ((rd_T33 t277 x11_4).f3)) = true := decide_eq_true c48
                                                clear c48
                                                by_cases c49 : ((rd_T33 t277 x11_4).f3) ≤ x12_30
                                                · rw [if_pos c49] at H
                                                  have c49b0 := eq_true c49
                                                  have c49b1 : decide (((rd_T33 t277 x11_4).f3) ≤ x12_30) = true := decide_eq_true c49
                                                  clear c49
                                                  by_cases c50 : x12_30 ≤ (t275.size : Int)
                                                  · rw [if_pos c50] at H
                                                    have c50b0 := eq_true c50
                                                    have c50b1 : decide (x12_30 ≤ (t275.size : Int)) = true := decide_eq_true c50
                                                    clear c50
                                                    by_cases c51 : (t275.extract (((rd_T33 t277 x11_4).f3) : Int).toNat (x12_30 : Int).toNat).toList = t295.toList
                                                    · rw [if_pos c51] at H
                                                      have c51b0 : ((t275.extract (((rd_T33 t277 x11_4).f3) : Int).toNat (x12_30 : Int).toNat).toList == t295.toList) = true := beq_iff_eq.mpr c51
                                                      have c51b1 : ((t275.extract (((rd_T33 t277 x11_4).f3) : Int).toNat (x12_30 : Int).toNat).toList != t295.toList) = false := bne_eq_false_iff_eq.mpr c51
                                                      clear c51
                                                      have H' := Aside0.mk H
                                                      clear H
                                                      have q52 : ((wrap64 (x11_4 + 1)) : Int) ≤ ((t272.length : Int) : Int) := of_decide_eq_true (by first | (with_reducible assumption) | assumption)
                                                      obtain ⟨i052, hi052, _, hsz52, _⟩ := info_parts info33
                                                      have hroom52 : t272.length ≤ co17 := (Kd.N_reads' HO_7.out).2.1
                                                      have hC52 : Kd.F k33 _ _ Ao17 t272.length t272 := (Kd.V_at (base := w.heap.size) (Kd.N_V HO_7.out)).2.2
                                                      have ql52 : (x11_4 : Int) ≤ ((wrap64 (x11_4 + 1)) : Int) := of_decide_eq_true (by first | (with_reducible assumption) | assumption)
                                                      have q052 : (0 : Int) ≤ (x11_4 : Int) := of_decide_eq_true (by first | (with_reducible assumption) | assumption)
                                                      have hcut52 := cut_mid (P := Tryd.prog) 25 33 .i64 .i64 Tryd.underlying25 hi052 4 hsz52 Ao17 t272.length co17 x11_4 (wrap64 (x11_4 + 1)) q052 ql52 q52 hroom52
                                                      have hr52 := Kd.F_mid (lo := (x11_4 : Int).toNat) (hi := ((wrap64 (x11_4 + 1)) : Int).toNat) (c := co17) hC52 (by omega) (by omega) hroom52
                                                      obtain ⟨A52, hA52⟩ : ∃ A1, A1 = (if co17 = (x11_4 : Int).toNat then Ao17 else (Ao17 : Option Addr).map (·.add ((x11_4 : Int).toNat * 4))) := ⟨_, rfl⟩
                                                      obtain ⟨c52, hc52⟩ : ∃ c1, c1 = co17 - (x11_4 : Int).toNat := ⟨_, rfl⟩
                                                      have hy52 : y290.length = ((wrap64 (x11_4 + 1)) : Int).toNat - (x11_4 : Int).toNat := (by rw [Ny290.out, List.length_drop, List.length_take] <;> omega)
                                                      rw [show ((t272).take ((wrap64 (x11_4 + 1)) : Int).toNat).drop (x11_4 : Int).toNat = y290 from Ny290.out.symm] at hr52
                                                      replace hr52 : Kd.F k33 _ _ A52 y290.length y290 := (by rw [hA52]; exact hr52)
                                                      rw [← hy52, ← hA52, ← hc52] at hcut52
                                                      have HO294 := Aside0.mk (show Kd.V k33 33 _ w.heap.size _ (.slice A52 y290.length c52) y290 from Kd.V_mk (by rw [hy52, hc52]; exact Nat.sub_le_sub_right (Nat.le_trans (by omega) hroom52) _) hr52)
                                                      have HC294 := Aside0.mk (show y290.length ≤ c52 from by rw [hy52, hc52]; exact Nat.sub_le_sub_right (Nat.le_trans (by omega) hroom52) _)
                                                      clear hr52 hC52 hroom52 hi052 hsz52 hc52
                                                      have KY52 := Aside0.mk hy52
                                                      have KA52 := Aside0.mk hA52
                                                      clear hy52 hA52
                                                      replace q52 := eq_true q52
                                                      go_wp2_with (first | ((with_reducible refine gate_callee (f := 14) rfl ?_); refine goesL_ (some 107) rfl rfl Tryd.func14 (by kernel_rfl) rfl #[.slice A52 y290.length c52] rfl (by (try simp only [List.map_toArray, List.map_cons, List.map_nil]); first | done | rfl | (simp only [List.length_drop, List.length_take]; rfl)) ?_; (with_reducible refine (glyph_Put.calls _ _ y290 t295 t296 _ ?side1 ?side2 ?side3 A45.out).mono ?_); (case side1 => repeat (first | exact (Kd.V_reads' HO294.out).2.2 | (with_reducible refine Kd.C_alloc ?_ _) | (with_reducible refine Kd.C_drewN ?_ _) | (with_reducible refine Kd.C_drew ?_))); (case side2 => exact (Kd.V_reads' HO294.out).2.1); (case side3 => exact GG_at hG (by repeat (first | (with_reducible first | exact HB.out | apply below_alloc | apply pw_below_drewN | apply below_drew1) | exact HB.out))); rintro e w53 ⟨rfl, hb⟩; refine ⟨_, rfl, ?_⟩; have n0_ := Aside0.mk (Kd.N_below (by (with_reducible repeat (first | apply Kd.N_alloc | apply Kd.N_drewN | apply Kd.N_drew)); exact HO_7.out) hb); have n1_ := Aside0.mk (Kd.N_below (by (with_reducible repeat (first | apply Kd.N_alloc | apply Kd.N_drewN | apply Kd.N_drew)); exact HO_10.out) hb); have n2_ := Aside0.mk (Kd.V_below (by (with_reducible repeat (first | apply Kd.V_alloc | apply Kd.V_drewN | apply Kd.V_drew)); exact HO294.out) hb); have n3_ := Aside0.mk (below_step (by repeat (first | (with_reducible first | exact HB.out | apply below_alloc | apply pw_below_drewN | apply below_drew1) | exact HB.out)) hb); clear HO_7; clear HO_10; clear HO294; clear HB; have HO_7 := n0_; have HO_10 := n1_; have HO294 := n2_; have HB := n3_; clear n0_ n1_ n2_ n3_; (try clear hb); (try clear hb2); (try clear hk); (try clear hi); have p297 : 0 ≤ (x11_4 : Int) := of_decide_eq_true (by first | (with_reducible assumption) | assumption); have q297 : x11_4 < (t277.length : Int) := of_decide_eq_true (by first | (with_reducible assumption) | assumption); obtain ⟨ad297, A297_1, c297_1, e297, hx297_0, hx297_1, hx297_2, hx297_3, hl297_1, hi297_1⟩ := at_T33 (Kd.N_reads' HO_10.out).2.2 x11_4 p297 q297; cases e297; obtain ⟨ce297, hce297, hMe297, hcc297⟩ := Kd.N_get HO_10.out z33 x11_4 p297 (by first | exact q297 | exact of_decide_eq_true (by first | (with_reducible assumption) | assumption) | (have e_ := (Kd.N_reads' HO_10.out).1; omega)); obtain ⟨ua297_1, uc297_1, rfl, ul297_1, ge297_1⟩ := k33_openF hMe297; have hv297_1 := hcc297 1 _ rfl; rw [add_field _ _ 1 (by omega)] at hv297_1; replace hv297_1 := Option.some.inj (hv297_1.symm.trans hx297_1); injection hv297_1 with hva_ hvn_ hvc_; rw [hva_] at ge297_1; rw [hvc_] at ul297_1; have HL297_1 := Aside0.mk (show Kd.V (Kd.int .u64) 51 _ w.heap.size _ _ ((rd_T33 t277 x11_4).f1) from Kd.V_mk ul297_1 ge297_1); clear hva_ hvn_ hvc_ ge297_1 ul297_1; clear hcc297 hce297; have HR297_1 := Aside0.mk hi297_1; have HC297_1 := Aside0.mk hl297_1; clear hi297_1 hl297_1; replace p297 := eq_true p297; replace q297 := eq_true q297))
                                                      go_roundg kj35
                                                      case measure => have := HJ3.out; have := HK2.out; have := HJ14.out; have := HK4.out; have := HJ30.out; have := HJ35.out; omega
                                                      case rel => exact ⟨(wrap64 (x11_4 + 1)), (by first | rfl | (simp; done) | (simp [*]; done) | exact isEmpty_bne _), H', ⟨by have := HJ3.out; have := HK2.out; have := HJ14.out; have := HK4.out; have := HJ30.out; have := HJ35.out; omega⟩, ⟨by (with_reducible repeat (first | apply Kd.N_alloc | apply Kd.N_drewN | apply Kd.N_drew)); exact HO_7.out⟩, ⟨by (with_reducible repeat (first | apply Kd.N_alloc | apply Kd.N_drewN | apply Kd.N_drew)); exact HO_10.out⟩, ⟨by repeat (first | (with_reducible first | exact HB.out | apply below_alloc | apply pw_below_drewN | apply below_drew1) | exact HB.out)⟩⟩
                                                    · rw [if_neg c51] at H
                                                      have c51b0 : ((t275.extract (((rd_T33 t277 x11_4).f3) : Int).toNat (x12_30 : Int).toNat).toList == t295.toList) = false := beq_eq_false_iff_ne.mpr c51
                                                      have c51b1 : ((t275.extract (((rd_T33 t277 x11_4).f3) : Int).toNat (x12_30 : Int).toNat).toList != t295.toList) = true := bne_iff_ne.mpr c51
                                                      obtain rfl := Option.some.inj H
                                                      have q54 : ((wrap64 (x11_4 + 1)) : Int) ≤ ((t272.length : Int) : Int) := of_decide_eq_true (by first | (with_reducible assumption) | assumption)
                                                      obtain ⟨i054, hi054, _, hsz54, _⟩ := info_parts info33
                                                      have hroom54 : t272.length ≤ co17 := (Kd.N_reads' HO_7.out).2.1
                                                      have hC54 : Kd.F k33 _ _ Ao17 t272.length t272 := (Kd.V_at (base := w.heap.size) (Kd.N_V HO_7.out)).2.2
                                                      have ql54 : (x11_4 : Int) ≤ ((wrap64 (x11_4 + 1)) : Int) := of_decide_eq_true (by first | (with_reducible assumption) | assumption)
                                                      have q054 : (0 : Int) ≤ (x11_4 : Int) := of_decide_eq_true (by first | (with_reducible assumption) | assumption)
                                                      have hcut54 := cut_mid (P := Tryd.prog) 25 33 .i64 .i64 Tryd.underlying25 hi054 4 hsz54 Ao17 t272.length co17 x11_4 (wrap64 (x11_4 + 1)) q054 ql54 q54 hroom54
                                                      have hr54 := Kd.F_mid (lo := (x11_4 : Int).toNat) (hi := ((wrap64 (x11_4 + 1)) : Int).toNat) (c := co17) hC54 (by omega) (by omega) hroom54
                                                      obtain ⟨A54, hA54⟩ : ∃ A1, A1 = (if co17 = (x11_4 : Int).toNat then Ao17 else (Ao17 : Option Addr).map (·.add ((x11_4 : Int).toNat * 4))) := ⟨_, rfl⟩
                                                      obtain ⟨c54, hc54⟩ : ∃ c1, c1 = co17 - (x11_4 : Int).toNat := ⟨_, rfl⟩
                                                      have hy54 : y290.length = ((wrap64 (x11_4 + 1)) : Int).toNat - (x11_4 : Int).toNat := (by rw [Ny290.out, List.length_drop, List.length_take] <;> omega)
                                                      rw [show ((t272).take ((wrap64 (x11_4 + 1)) : Int).toNat).drop (x11_4 : Int).toNat = y290 from Ny290.out.symm] at hr54
                                                      replace hr54 : Kd.F k33 _ _ A54 y290.length y290 := (by rw [hA54]; exact hr54)
                                                      rw [← hy54, ← hA54, ← hc54] at hcut54
                                                      have HO294 := Aside0.mk (show Kd.V k33 33 _ w.heap.size _ (.slice A54 y290.length c54) y290 from Kd.V_mk (by rw [hy54, hc54]; exact Nat.sub_le_sub_right (Nat.le_trans (by omega) hroom54) _) hr54)
                                                      have HC294 := Aside0.mk (show y290.length ≤ c54 from by rw [hy54, hc54]; exact Nat.sub_le_sub_right (Nat.le_trans (by omega) hroom54) _)
                                                      clear hr54 hC54 hroom54 hi054 hsz54 hc54
                                                      have KY54 := Aside0.mk hy54
                                                      have KA54 := Aside0.mk hA54
                                                      clear hy54 hA54
                                                      replace q54 := eq_true q54
                                                      go_wp2_with (first | ((with_reducible refine gate_callee (f := 14) rfl ?_); refine goesL_ (some 107) rfl rfl Tryd.func14 (by kernel_rfl) rfl #[.slice A54 y290.length c54] rfl (by (try simp only [List.map_toArray, List.map_cons, List.map_nil]); first | done | rfl | (simp only [List.length_drop, List.length_take]; rfl)) ?_; (with_reducible refine (glyph_Put.calls _ _ y290 t295 t296 _ ?side1 ?side2 ?side3 A45.out).mono ?_); (case side1 => repeat (first | exact (Kd.V_reads' HO294.out).2.2 | (with_reducible refine Kd.C_alloc ?_ _) | (with_reducible refine Kd.C_drewN ?_ _) | (with_reducible refine Kd.C_drew ?_))); (case side2 => exact (Kd.V_reads' HO294.out).2.1); (case side3 => exact GG_at hG (by repeat (first | (with_reducible first | exact HB.out | apply below_alloc | apply pw_below_drewN | apply below_drew1) | exact HB.out))); rintro e w55 ⟨rfl, hb⟩; refine ⟨_, rfl, ?_⟩; have n0_ := Aside0.mk (Kd.N_below (by (with_reducible repeat (first | apply Kd.N_alloc | apply Kd.N_drewN | apply Kd.N_drew)); exact HO_7.out) hb); have n1_ := Aside0.mk (Kd.N_below (by (with_reducible repeat (first | apply Kd.N_alloc | apply Kd.N_drewN | apply Kd.N_drew)); exact HO_10.out) hb); have n2_ := Aside0.mk (Kd.V_below (by (with_reducible repeat (first | apply Kd.V_alloc | apply Kd.V_drewN | apply Kd.V_drew)); exact HO294.out) hb); have n3_ := Aside0.mk (below_step (by repeat (first | (with_reducible first | exact HB.out | apply below_alloc | apply pw_below_drewN | apply below_drew1) | exact HB.out)) hb); clear HO_7; clear HO_10; clear HO294; clear HB; have HO_7 := n0_; have HO_10 := n1_; have HO294 := n2_; have HB := n3_; clear n0_ n1_ n2_ n3_; (try clear hb); (try clear hb2); (try clear hk); (try clear hi); have p297 : 0 ≤ (x11_4 : Int) := of_decide_eq_true (by first | (with_reducible assumption) | assumption); have q297 : x11_4 < (t277.length : Int) := of_decide_eq_true (by first | (with_reducible assumption) | assumption); obtain ⟨ad297, A297_1, c297_1, e297, hx297_0, hx297_1, hx297_2, hx297_3, hl297_1, hi297_1⟩ := at_T33 (Kd.N_reads' HO_10.out).2.2 x11_4 p297 q297; cases e297; obtain ⟨ce297, hce297, hMe297, hcc297⟩ := Kd.N_get HO_10.out z33 x11_4 p297 (by first | exact q297 | exact of_decide_eq_true (by first | (with_reducible assumption) | assumption) | (have e_ := (Kd.N_reads' HO_10.out).1; omega)); obtain ⟨ua297_1, uc297_1, rfl, ul297_1, ge297_1⟩ := k33_openF hMe297; have hv297_1 := hcc297 1 _ rfl; rw [add_field _ _ 1 (by omega)] at hv297_1; replace hv297_1 := Option.some.inj (hv297_1.symm.trans hx297_1); injection hv297_1 with hva_ hvn_ hvc_; rw [hva_] at ge297_1; rw [hvc_] at ul297_1; have HL297_1 := Aside0.mk (show Kd.V (Kd.int .u64) 51 _ w.heap.size _ _ ((rd_T33 t277 x11_4).f1) from Kd.V_mk ul297_1 ge297_1); clear hva_ hvn_ hvc_ ge297_1 ul297_1; clear hcc297 hce297; have HR297_1 := Aside0.mk hi297_1; have HC297_1 := Aside0.mk hl297_1; clear hi297_1 hl297_1; replace p297 := eq_true p297; replace q297 := eq_true q297))
                                                      go_ret
                                                      exact ⟨by first | rfl | (simp [errW_none, errW_some] <;> rfl) | (simp [*, errW_none, errW_some] <;> rfl), by repeat (first | (with_reducible first | exact HB.out | apply below_alloc | apply pw_below_drewN | apply below_drew1) | exact HB.out)⟩
                                                  · rw [if_neg c50] at H
                                                    exact absurd H (by simp)
                                                · rw [if_neg c49] at H
                                                  exact absurd H (by simp)
                                              · rw [if_neg c48] at H
                                                exact absurd H (by simp)
                                            · rw [if_neg c47] at H
                                              exact absurd H (by simp)
                                          · rw [if_neg c46] at H
                                            have c46b0 : (t296 == 0) = false := beq_eq_false_iff_ne.mpr c46
                                            have c46b1 : (t296 != 0) = true := bne_iff_ne.mpr c46
                                            obtain rfl := Option.some.inj H
                                            have q56 : ((wrap64 (x11_4 + 1)) : Int) ≤ ((t272.length : Int) : Int) := of_decide_eq_true (by first | (with_reducible assumption) | assumption)
                                            obtain ⟨i056, hi056, _, hsz56, _⟩ := info_parts info33
                                            have hroom56 : t272.length ≤ co17 := (Kd.N_reads' HO_7.out).2.1
                                            have hC56 : Kd.F k33 _ _ Ao17 t272.length t272 := (Kd.V_at (base := w.heap.size) (Kd.N_V HO_7.out)).2.2
                                            have ql56 : (x11_4 : Int) ≤ ((wrap64 (x11_4 + 1)) : Int) := of_decide_eq_true (by first | (with_reducible assumption) | assumption)
                                            have q056 : (0 : Int) ≤ (x11_4 : Int) := of_decide_eq_true (by first | (with_reducible assumption) | assumption)
                                            have hcut56 := cut_mid (P := Tryd.prog) 25 33 .i64 .i64 Tryd.underlying25 hi056 4 hsz56 Ao17 t272.length co17 x11_4 (wrap64 (x11_4 + 1)) q056 ql56 q56 hroom56
                                            have hr56 := Kd.F_mid (lo := (x11_4 : Int).toNat) (hi := ((wrap64 (x11_4 + 1)) : Int).toNat) (c := co17) hC56 (by omega) (by omega) hroom56
                                            obtain ⟨A56, hA56⟩ : ∃ A1, A1 = (if co17 = (x11_4 : Int).toNat then Ao17 else (Ao17 : Option Addr).map (·.add ((x11_4 : Int).toNat * 4))) := ⟨_, rfl⟩
                                            obtain ⟨c56, hc56⟩ : ∃ c1, c1 = co17 - (x11_4 : Int).toNat := ⟨_, rfl⟩
                                            have hy56 : y290.length = ((wrap64 (x11_4 + 1)) : Int).toNat - (x11_4 : Int).toNat := (by rw [Ny290.out, List.length_drop, List.length_take] <;> omega)
                                            rw [show ((t272).take ((wrap64 (x11_4 + 1)) : Int).toNat).drop (x11_4 : Int).toNat = y290 from Ny290.out.symm] at hr56
                                            replace hr56 : Kd.F k33 _ _ A56 y290.length y290 := (by rw [hA56]; exact hr56)
                                            rw [← hy56, ← hA56, ← hc56] at hcut56
                                            have HO294 := Aside0.mk (show Kd.V k33 33 _ w.heap.size _ (.slice A56 y290.length c56) y290 from Kd.V_mk (by rw [hy56, hc56]; exact Nat.sub_le_sub_right (Nat.le_trans (by omega) hroom56) _) hr56)
                                            have HC294 := Aside0.mk (show y290.length ≤ c56 from by rw [hy56, hc56]; exact Nat.sub_le_sub_right (Nat.le_trans (by omega) hroom56) _)
                                            clear hr56 hC56 hroom56 hi056 hsz56 hc56
                                            have KY56 := Aside0.mk hy56
                                            have KA56 := Aside0.mk hA56
                                            clear hy56 hA56
                                            replace q56 := eq_true q56
                                            go_wp2_with (first | ((with_reducible refine gate_callee (f := 14) rfl ?_); refine goesL_ (some 107) rfl rfl Tryd.func14 (by kernel_rfl) rfl #[.slice A56 y290.length c56] rfl (by (try simp only [List.map_toArray, List.map_cons, List.map_nil]); first | done | rfl | (simp only [List.length_drop, List.length_take]; rfl)) ?_; (with_reducible refine (glyph_Put.calls _ _ y290 t295 t296 _ ?side1 ?side2 ?side3 A45.out).mono ?_); (case side1 => repeat (first | exact (Kd.V_reads' HO294.out).2.2 | (with_reducible refine Kd.C_alloc ?_ _) | (with_reducible refine Kd.C_drewN ?_ _) | (with_reducible refine Kd.C_drew ?_))); (case side2 => exact (Kd.V_reads' HO294.out).2.1); (case side3 => exact GG_at hG (by repeat (first | (with_reducible first | exact HB.out | apply below_alloc | apply pw_below_drewN | apply below_drew1) | exact HB.out))); rintro e w57 ⟨rfl, hb⟩; refine ⟨_, rfl, ?_⟩; have n0_ := Aside0.mk (Kd.N_below (by (with_reducible repeat (first | apply Kd.N_alloc | apply Kd.N_drewN | apply Kd.N_drew)); exact HO_7.out) hb); have n1_ := Aside0.mk (Kd.N_below (by (with_reducible repeat (first | apply Kd.N_alloc | apply Kd.N_drewN | apply Kd.N_drew)); exact HO_10.out) hb); have n2_ := Aside0.mk (Kd.V_below (by (with_reducible repeat (first | apply Kd.V_alloc | apply Kd.V_drewN | apply Kd.V_drew)); exact HO294.out) hb); have n3_ := Aside0.mk (below_step (by repeat (first | (with_reducible first | exact HB.out | apply below_alloc | apply pw_below_drewN | apply below_drew1) | exact HB.out)) hb); clear HO_7; clear HO_10; clear HO294; clear HB; have HO_7 := n0_; have HO_10 := n1_; have HO294 := n2_; have HB := n3_; clear n0_ n1_ n2_ n3_; (try clear hb); (try clear hb2); (try clear hk); (try clear hi)))
                                            go_ret
                                            exact ⟨by first | rfl | (simp [errW_none, errW_some] <;> rfl) | (simp [*, errW_none, errW_some] <;> rfl), by repeat (first | (with_reducible first | exact HB.out | apply below_alloc | apply pw_below_drewN | apply below_drew1) | exact HB.out)⟩
                                        · rw [if_neg c44] at H
                                          exact absurd H (by simp)
                                      · rw [if_neg c43] at H
                                        exact absurd H (by simp)
                                    · rw [if_neg c42] at H
                                      exact absurd H (by simp)
                        · rw [if_neg c30] at H
                          have c30b0 : decide (x11_4 < (t277.length : Int)) = false := decide_eq_false c30
                          clear c30
                          obtain rfl := Option.some.inj H
                          obtain ⟨Ao58, co58, eo58⟩ := Kd.N_slice HO_10.out
                          subst eo58
                          go_wp2
                          go_ret
                          exact ⟨by first | rfl | (simp [errW_none, errW_some] <;> rfl) | (simp [*, errW_none, errW_some] <;> rfl), by repeat (first | (with_reducible first | exact HB.out | apply below_alloc | apply pw_below_drewN | apply below_drew1) | exact HB.out)⟩

end Go.Proofs.YtcldjdngfmakbaaDoor.G

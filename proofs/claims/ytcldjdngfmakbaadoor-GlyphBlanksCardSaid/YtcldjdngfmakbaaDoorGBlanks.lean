-- Written by this session's own program wip/tool/myprint.py over the kit's printer; not trusted: Lean checks it.
import Derived.Test.YtcldjdngfmakbaaDoorG0
import Derived.Test.YtcldjdngfmakbaaDoorG1
import Derived.Test.YtcldjdngfmakbaaDoorG2
import Derived.Test.YtcldjdngfmakbaaDoorGMade
import Derived.Test.YtcldjdngfmakbaaDoorGlyphParse
import Derived.Test.YtcldjdngfmakbaaDoorGlyphPut
import Derived.Test.YtcldjdngfmakbaaDoorGlyphShown
import Derived.Test.YtcldjdngfmakbaaDoorGround
namespace Go.Proofs.YtcldjdngfmakbaaDoor.G
open Go.RowKit Go.Proofs.YtcldjdngfmakbaaDoorW.PrintWords Go.Proofs.YtcldjdngfmakbaaDoorW.PrintLast Go.Proofs.YtcldjdngfmakbaaDoorW.PrintMore
attribute [local go_sem] max2_int min2_int max_two min_two max_three min_three max_four min_four   -- for this text's walks alone
set_option linter.unusedVariables false
set_option linter.unusedSimpArgs false

open Go.Proofs.YtcldjdngfmakbaaDoor
/-! ### hatstandlaw3_GlyphBlanks: function 7 -/
mutual
def hatstandlaw3_GlyphBlanks.j0 : Nat → List Int → List (List Int) → List Int → Bool → Bool → Option (Bool)
  | 0, _, _, _, _, _ => none
  | k + 1, x0, x1, x2, x7, x31 => if x31 = true then (some x7) else ((hatstandlaw3_made.f k x0 x1).bind fun t299 => (hatstandlaw3_GlyphBlanks.l0 k x2 t299 (⟨#[]⟩ : ByteArray) 0))
def hatstandlaw3_GlyphBlanks.l0 : Nat → List Int → List (S33) → ByteArray → Int → Option (Bool)
  | 0, _, _, _, _ => none
  | k + 1, x2, x8, x9, x10 => if x10 < (x8.length : Int) then (if 0 ≤ x10 then (if (((rd_T33 x8 x10).f1).length : Int) > 20 then (some true) else (if x10 ≤ (wrap64 (x10 + 1)) then (if (wrap64 (x10 + 1)) ≤ (x8.length : Int) then ((glyph_Put.f ((x8.take ((wrap64 (x10 + 1)) : Int).toNat).drop (x10 : Int).toNat)).bind fun bt308 => (if bt308.2 = 0 then (if x9.size + bt308.1.size ≤ 9223372036854775807 then (hatstandlaw3_GlyphBlanks.l1 k x2 x8 (x9 ++ bt308.1) x10 0) else (none)) else (some false))) else (none)) else (none))) else (none)) else ((glyph_Parse.f x9).bind fun t318 => ((hatstandlaw3_as.f k t318).bind fun t321 => ((hatstandlaw3_as.f k x8).bind fun t324 => ((hatstandref3_Same.f k t321 t324 false).bind fun t327 => (some t327)))))
def hatstandlaw3_GlyphBlanks.l1 : Nat → List Int → List (S33) → ByteArray → Int → Int → Option (Bool)
  | 0, _, _, _, _, _ => none
  | k + 1, x2, x8, x9, x10, x13 => if x10 < (x2.length : Int) then (if 0 ≤ x10 then ((hatstandlaw3_pick.f (rd x2 x10) 4).bind fun t311 => (if x13 < t311 then ((some (([(⟨#[32]⟩ : ByteArray), (⟨#[9]⟩ : ByteArray), (⟨#[10]⟩ : ByteArray)] : List ByteArray) : List ByteArray)).bind fun y312 => ((hatstandlaw3_pick.f (wrap64 ((wrap64 (Int.tdiv (rd x2 x10) 4)) + x13)) 3).bind fun t316 => (if 0 ≤ t316 then (if t316 < (y312.length : Int) then (if x9.size + (rdOf ByteArray.empty y312 t316).size ≤ 9223372036854775807 then (hatstandlaw3_GlyphBlanks.l1 k x2 x8 (x9 ++ (rdOf ByteArray.empty y312 t316)) x10 (wrap64 (x13 + 1))) else (none)) else (none)) else (none)))) else (hatstandlaw3_GlyphBlanks.l0 k x2 x8 x9 (wrap64 (x10 + 1))))) else (none)) else (hatstandlaw3_GlyphBlanks.l0 k x2 x8 x9 (wrap64 (x10 + 1)))
end
def hatstandlaw3_GlyphBlanks.f (k : Nat) (l0 : List Int) (l1 : List (List Int)) (l2 : List Int) : Option (Bool) := (hatstandlaw3_shown.f).bind fun t298 => (if t298 = true then (if (l0.length : Int) > 50 then (hatstandlaw3_GlyphBlanks.j0 k l0 l1 l2 t298 true) else (if (l1.length : Int) > 50 then (hatstandlaw3_GlyphBlanks.j0 k l0 l1 l2 t298 true) else (hatstandlaw3_GlyphBlanks.j0 k l0 l1 l2 t298 (decide ((l2.length : Int) > 50))))) else (hatstandlaw3_GlyphBlanks.j0 k l0 l1 l2 t298 true))
theorem hatstandlaw3_GlyphBlanks.mono_l : ∀ k, (∀ y0 y1 y2 y3 y4, LeO (hatstandlaw3_GlyphBlanks.j0 k y0 y1 y2 y3 y4) (hatstandlaw3_GlyphBlanks.j0 (k + 1) y0 y1 y2 y3 y4)) ∧ (∀ y0 y1 y2 y3, LeO (hatstandlaw3_GlyphBlanks.l0 k y0 y1 y2 y3) (hatstandlaw3_GlyphBlanks.l0 (k + 1) y0 y1 y2 y3)) ∧ (∀ y0 y1 y2 y3 y4, LeO (hatstandlaw3_GlyphBlanks.l1 k y0 y1 y2 y3 y4) (hatstandlaw3_GlyphBlanks.l1 (k + 1) y0 y1 y2 y3 y4))
  | 0 => ⟨fun _ _ _ _ _ r h => by simp [hatstandlaw3_GlyphBlanks.j0] at h, fun _ _ _ _ r h => by simp [hatstandlaw3_GlyphBlanks.l0] at h, fun _ _ _ _ _ r h => by simp [hatstandlaw3_GlyphBlanks.l1] at h⟩
  | k + 1 => by
    obtain ⟨ih0, ih1, ih2⟩ := hatstandlaw3_GlyphBlanks.mono_l k
    refine ⟨?_, ?_, ?_⟩
    · intro y0 y1 y2 y3 y4
      unfold hatstandlaw3_GlyphBlanks.j0
      repeat' first
      | (with_reducible exact ih0 _ _ _ _ _)
      | (with_reducible exact ih1 _ _ _ _)
      | (with_reducible exact ih2 _ _ _ _ _)
      | (with_reducible exact hatstandlaw3_as.mono _ _)
      | (with_reducible exact hatstandlaw3_made.mono _ _ _)
      | (with_reducible exact hatstandref3_Same.mono _ _ _ _)
      | (with_reducible exact LeO.refl _)
      | (with_reducible exact LeO.none _)
      | (with_reducible refine LeO.ite ?_ ?_)
      | (with_reducible refine LeO.bind ?_ (fun _ => ?_))
      | exact ih0 _ _ _ _ _
      | exact ih1 _ _ _ _
      | exact ih2 _ _ _ _ _
      | exact hatstandlaw3_as.mono _ _
      | exact hatstandlaw3_made.mono _ _ _
      | exact hatstandref3_Same.mono _ _ _ _
      | exact LeO.none _
      | refine LeO.ite ?_ ?_
      | refine LeO.bind ?_ (fun _ => ?_)
    · intro y0 y1 y2 y3
      unfold hatstandlaw3_GlyphBlanks.l0
      repeat' first
      | (with_reducible exact ih0 _ _ _ _ _)
      | (with_reducible exact ih1 _ _ _ _)
      | (with_reducible exact ih2 _ _ _ _ _)
      | (with_reducible exact hatstandlaw3_as.mono _ _)
      | (with_reducible exact hatstandlaw3_made.mono _ _ _)
      | (with_reducible exact hatstandref3_Same.mono _ _ _ _)
      | (with_reducible exact LeO.refl _)
      | (with_reducible exact LeO.none _)
      | (with_reducible refine LeO.ite ?_ ?_)
      | (with_reducible refine LeO.bind ?_ (fun _ => ?_))
      | exact ih0 _ _ _ _ _
      | exact ih1 _ _ _ _
      | exact ih2 _ _ _ _ _
      | exact hatstandlaw3_as.mono _ _
      | exact hatstandlaw3_made.mono _ _ _
      | exact hatstandref3_Same.mono _ _ _ _
      | exact LeO.none _
      | refine LeO.ite ?_ ?_
      | refine LeO.bind ?_ (fun _ => ?_)
    · intro y0 y1 y2 y3 y4
      unfold hatstandlaw3_GlyphBlanks.l1
      repeat' first
      | (with_reducible exact ih0 _ _ _ _ _)
      | (with_reducible exact ih1 _ _ _ _)
      | (with_reducible exact ih2 _ _ _ _ _)
      | (with_reducible exact hatstandlaw3_as.mono _ _)
      | (with_reducible exact hatstandlaw3_made.mono _ _ _)
      | (with_reducible exact hatstandref3_Same.mono _ _ _ _)
      | (with_reducible exact LeO.refl _)
      | (with_reducible exact LeO.none _)
      | (with_reducible refine LeO.ite ?_ ?_)
      | (with_reducible refine LeO.bind ?_ (fun _ => ?_))
      | exact ih0 _ _ _ _ _
      | exact ih1 _ _ _ _
      | exact ih2 _ _ _ _ _
      | exact hatstandlaw3_as.mono _ _
      | exact hatstandlaw3_made.mono _ _ _
      | exact hatstandref3_Same.mono _ _ _ _
      | exact LeO.none _
      | refine LeO.ite ?_ ?_
      | refine LeO.bind ?_ (fun _ => ?_)
theorem hatstandlaw3_GlyphBlanks.mono : ∀ a0 a1 a2 k, LeO (hatstandlaw3_GlyphBlanks.f k a0 a1 a2) (hatstandlaw3_GlyphBlanks.f (k + 1) a0 a1 a2) := by
  intro a0 a1 a2 k
  obtain ⟨ih0, ih1, ih2⟩ := hatstandlaw3_GlyphBlanks.mono_l k
  unfold hatstandlaw3_GlyphBlanks.f
  repeat' first
      | (with_reducible exact ih0 _ _ _ _ _)
      | (with_reducible exact ih1 _ _ _ _)
      | (with_reducible exact ih2 _ _ _ _ _)
      | (with_reducible exact hatstandlaw3_as.mono _ _)
      | (with_reducible exact hatstandlaw3_made.mono _ _ _)
      | (with_reducible exact hatstandref3_Same.mono _ _ _ _)
      | (with_reducible exact LeO.refl _)
      | (with_reducible exact LeO.none _)
      | (with_reducible refine LeO.ite ?_ ?_)
      | (with_reducible refine LeO.bind ?_ (fun _ => ?_))
      | exact ih0 _ _ _ _ _
      | exact ih1 _ _ _ _
      | exact ih2 _ _ _ _ _
      | exact hatstandlaw3_as.mono _ _
      | exact hatstandlaw3_made.mono _ _ _
      | exact hatstandref3_Same.mono _ _ _ _
      | exact LeO.none _
      | refine LeO.ite ?_ ?_
      | refine LeO.bind ?_ (fun _ => ?_)
set_option maxHeartbeats 8000000 in
set_option maxRecDepth 100000 in
theorem hatstandlaw3_GlyphBlanks.calls (k : Nat) (A0 : Option Addr) (c0 : Nat) (l0 : List Int) (A1 : Option Addr) (c1 : Nat) (l1 : List (List Int)) (A2 : Option Addr) (c2 : Nat) (l2 : List Int) (r : Bool) (w : World) (hr0 : Kd.C (Kd.int .i64) w A0 l0.length l0) (hc0 : l0.length ≤ c0) (hr1 : Kd.C (Kd.slice 51 (Kd.int .u64)) w A1 l1.length l1) (hc1 : l1.length ≤ c1) (hr2 : Kd.C (Kd.int .i64) w A2 l2.length l2) (hc2 : l2.length ≤ c2) (hG : GG w) (h : hatstandlaw3_GlyphBlanks.f k l0 l1 l2 = some r) :
    Calls Tryd.prog 7 #[.slice A0 l0.length c0, .slice A1 l1.length c1, .slice A2 l2.length c2] w fun e w' => e = .returned (.bool r) ∧ Below w.heap.size w w' := by
  have HR0 := Aside0.mk hr0
  have HC0 := Aside0.mk hc0
  clear hr0 hc0
  have HR1 := Aside0.mk hr1
  have HC1 := Aside0.mk hc1
  clear hr1 hc1
  have HR2 := Aside0.mk hr2
  have HC2 := Aside0.mk hc2
  clear hr2 hc2
  have HB := Aside0.mk (Below.refl w.heap.size w)
  have H : ((hatstandlaw3_shown.f).bind fun t298 => (if t298 = true then (if (l0.length : Int) > 50 then (hatstandlaw3_GlyphBlanks.j0 k l0 l1 l2 t298 true) else (if (l1.length : Int) > 50 then (hatstandlaw3_GlyphBlanks.j0 k l0 l1 l2 t298 true) else (hatstandlaw3_GlyphBlanks.j0 k l0 l1 l2 t298 (decide ((l2.length : Int) > 50))))) else (hatstandlaw3_GlyphBlanks.j0 k l0 l1 l2 t298 true))) = some r := h
  clear h
  replace H := Option.bind_eq_some_iff.mp H
  obtain ⟨t298, A40, H⟩ := H
  replace H : (if t298 = true then (if (l0.length : Int) > 50 then (hatstandlaw3_GlyphBlanks.j0 k l0 l1 l2 t298 true) else (if (l1.length : Int) > 50 then (hatstandlaw3_GlyphBlanks.j0 k l0 l1 l2 t298 true) else (hatstandlaw3_GlyphBlanks.j0 k l0 l1 l2 t298 (decide ((l2.length : Int) > 50))))) else (hatstandlaw3_GlyphBlanks.j0 k l0 l1 l2 t298 true)) = some r := H
  have A4 := Aside0.mk A40
  clear A40
  have HC5 := Aside0.mk H
  clear H
  go_enter Tryd.func7, Tryd.ntmps7
  go_upto_region 2 with (first | ((with_reducible refine gate_callee (f := 10) rfl ?_); refine goesL_ (some 14) rfl rfl Tryd.func10 (by kernel_rfl) rfl #[] rfl (by (try simp only [List.map_toArray, List.map_cons, List.map_nil]); first | done | rfl | (simp only [List.length_drop, List.length_take]; rfl)) ?_; (with_reducible refine (hatstandlaw3_shown.calls  t298 _ ?side1 A4.out).mono ?_); (case side1 => exact GG_at hG (by repeat (first | (with_reducible first | exact HB.out | apply below_alloc | apply pw_below_drewN | apply below_drew1) | exact HB.out))); rintro e w6 ⟨rfl, hb⟩; refine ⟨_, rfl, ?_⟩; have n0_ := Aside0.mk (below_step (by repeat (first | (with_reducible first | exact HB.out | apply below_alloc | apply pw_below_drewN | apply below_drew1) | exact HB.out)) hb); clear HB; have HB := n0_; clear n0_; (try clear hb); (try clear hb2); (try clear hk); (try clear hi)))
  (try simp only [Act.put, List.setIfInBounds_toArray, List.set_cons_zero, List.set_cons_succ])
  go_cut [31] (fun v31 wc => ∃ (kq : Nat) (x31_4 : Bool), v31 = .bool x31_4 ∧ Aside0 (hatstandlaw3_GlyphBlanks.j0 kq l0 l1 l2 t298 x31_4 = some r) ∧ Aside0 (kq ≤ k) ∧ Aside0 (Below w.heap.size w wc))
  case first =>
    have H := HC5.out
    clear HC5
    by_cases c7 : t298 = true
    · subst c7
      have H1 : (if (l0.length : Int) > 50 then (hatstandlaw3_GlyphBlanks.j0 k l0 l1 l2 true true) else (if (l1.length : Int) > 50 then (hatstandlaw3_GlyphBlanks.j0 k l0 l1 l2 true true) else (hatstandlaw3_GlyphBlanks.j0 k l0 l1 l2 true (decide ((l2.length : Int) > 50))))) = some r := by rw [if_pos rfl] at H; exact H
      clear H
      have H := H1
      clear H1
      by_cases c8 : (l0.length : Int) > 50
      · rw [if_pos c8] at H
        have c8b0 : decide (50 < (l0.length : Int)) = true := decide_eq_true c8
        have c8b1 : decide (50 < l0.length) = true := decide_eq_true (by omega)
        clear c8
        (first | rw [c8b0] | (simp only [i64_w, i32_w]; rw [c8b0]) | skip)
        have H' := Aside0.mk H
        clear H
        go_wp2
        go_meet
        case rel => exact ⟨_, (true), (by first | rfl | (simp; done) | (simp [*]; done) | exact isEmpty_bne _), H', ⟨by first | omega | exact Nat.le_refl _⟩, ⟨by repeat (first | (with_reducible first | exact HB.out | apply below_alloc | apply pw_below_drewN | apply below_drew1) | exact HB.out)⟩⟩
      · rw [if_neg c8] at H
        have c8b0 : decide (50 < (l0.length : Int)) = false := decide_eq_false c8
        have c8b1 : decide (50 < l0.length) = false := decide_eq_false (by omega)
        clear c8
        (first | rw [c8b0] | (simp only [i64_w, i32_w]; rw [c8b0]) | skip)
        by_cases c9 : (l1.length : Int) > 50
        · rw [if_pos c9] at H
          have c9b0 : decide (50 < (l1.length : Int)) = true := decide_eq_true c9
          have c9b1 : decide (50 < l1.length) = true := decide_eq_true (by omega)
          clear c9
          have H' := Aside0.mk H
          clear H
          go_wp2
          go_meet
          case rel => exact ⟨_, (true), (by first | rfl | (simp; done) | (simp [*]; done) | exact isEmpty_bne _), H', ⟨by first | omega | exact Nat.le_refl _⟩, ⟨by repeat (first | (with_reducible first | exact HB.out | apply below_alloc | apply pw_below_drewN | apply below_drew1) | exact HB.out)⟩⟩
        · rw [if_neg c9] at H
          have c9b0 : decide (50 < (l1.length : Int)) = false := decide_eq_false c9
          have c9b1 : decide (50 < l1.length) = false := decide_eq_false (by omega)
          clear c9
          have H' := Aside0.mk H
          clear H
          go_wp2
          go_meet
          case rel => exact ⟨_, (decide ((l2.length : Int) > 50)), (by first | rfl | (simp; done) | (simp [*]; done) | exact isEmpty_bne _), H', ⟨by first | omega | exact Nat.le_refl _⟩, ⟨by repeat (first | (with_reducible first | exact HB.out | apply below_alloc | apply pw_below_drewN | apply below_drew1) | exact HB.out)⟩⟩
    · replace c7 := Bool.eq_false_iff.mpr c7
      subst c7
      have H1 : (hatstandlaw3_GlyphBlanks.j0 k l0 l1 l2 false true) = some r := by rw [if_neg (show ¬ (false = true) by decide)] at H; exact H
      clear H
      have H := H1
      clear H1
      have H' := Aside0.mk H
      clear H
      go_wp2
      go_meet
      case rel => exact ⟨_, (true), (by first | rfl | (simp; done) | (simp [*]; done) | exact isEmpty_bne _), H', ⟨by first | omega | exact Nat.le_refl _⟩, ⟨by repeat (first | (with_reducible first | exact HB.out | apply below_alloc | apply pw_below_drewN | apply below_drew1) | exact HB.out)⟩⟩
  case rest =>
    clear HC5
    try clear c1
    try clear c2
    try clear p2
    try clear c7
    try clear c8
    try clear c8b0
    try clear c8b1
    try clear c9
    try clear c9b0
    try clear c9b1
    obtain ⟨kq, x31_4, rfl, HA, HJ4, HB⟩ := hcut
    cases kq with
    | zero => exact absurd HA.out (by simp [hatstandlaw3_GlyphBlanks.j0])
    | succ kj4 =>
      have H := HA.out
      clear HA
      simp only [hatstandlaw3_GlyphBlanks.j0] at H
      by_cases c10 : x31_4 = true
      · subst c10
        have H1 : (some t298) = some r := by rw [if_pos rfl] at H; exact H
        clear H
        have H := H1
        clear H1
        obtain rfl := Option.some.inj H
        go_wp2
        go_ret
        exact ⟨by first | rfl | (simp [errW_none, errW_some] <;> rfl) | (simp [*, errW_none, errW_some] <;> rfl), by repeat (first | (with_reducible first | exact HB.out | apply below_alloc | apply pw_below_drewN | apply below_drew1) | exact HB.out)⟩
      · replace c10 := Bool.eq_false_iff.mpr c10
        subst c10
        have H1 : ((hatstandlaw3_made.f kj4 l0 l1).bind fun t299 => (hatstandlaw3_GlyphBlanks.l0 kj4 l2 t299 (⟨#[]⟩ : ByteArray) 0)) = some r := by rw [if_neg (show ¬ (false = true) by decide)] at H; exact H
        clear H
        have H := H1
        clear H1
        replace H := Option.bind_eq_some_iff.mp H
        obtain ⟨t299, A110, H⟩ := H
        replace H : (hatstandlaw3_GlyphBlanks.l0 kj4 l2 t299 (⟨#[]⟩ : ByteArray) 0) = some r := H
        have A11 := Aside0.mk A110
        clear A110
        have H' := Aside0.mk H
        clear H
        go_wp2_with (first | ((with_reducible refine gate_callee (f := 17) rfl ?_); refine goesL_ (some 35) rfl rfl Tryd.func17 (by kernel_rfl) rfl #[.slice A0 l0.length c0, .slice A1 l1.length c1] rfl (by (try simp only [List.map_toArray, List.map_cons, List.map_nil]); first | done | rfl | (simp only [List.length_drop, List.length_take]; rfl)) ?_; (with_reducible refine (hatstandlaw3_made.calls kj4 _ _ l0 (fun k_ => k_ < w.heap.size) _ _ l1 t299 _ ?side1 ?side2 ?side3 A11.out).mono ?_); (case side1 => repeat (first | exact (Kd.C_below HR0.out HB.out) | (with_reducible refine Kd.C_alloc ?_ _) | (with_reducible refine Kd.C_drewN ?_ _) | (with_reducible refine Kd.C_drew ?_))); (case side2 => exact HC0.out); (case side3 => exact Kd.V_mk HC1.out (Kd.F_below (Kd.C_F (Kd.heap_slice 51 (Kd.heap_int .u64)) HR1.out) (by repeat (first | (with_reducible first | exact HB.out | apply below_alloc | apply pw_below_drewN | apply below_drew1) | exact HB.out)))); rintro e w12 ⟨v300, rfl, ho0, hb⟩; refine ⟨_, rfl, ?_⟩; have n0_ := Aside0.mk (Kd.N_lower (Kd.N_mono (ok' := fun k_ => True) ho0 (fun k_ hk_ => trivial)) (below_size (by repeat (first | (with_reducible first | exact HB.out | apply below_alloc | apply pw_below_drewN | apply below_drew1) | exact HB.out)))); have n1_ := Aside0.mk (below_step (by repeat (first | (with_reducible first | exact HB.out | apply below_alloc | apply pw_below_drewN | apply below_drew1) | exact HB.out)) hb); clear HB; have HO301 := n0_; have HB := n1_; clear n0_ n1_; (try clear hb); (try clear hb2); (try clear hk); (try clear hi); (try clear ho0)))
        go_loopg [9, 10] kj4 (fun kq v9 v10 w' => ∃ (x9_2 : ByteArray) (x10_2 : Int), v9 = .string x9_2 ∧ v10 = .int .i64 x10_2 ∧ Aside0 (hatstandlaw3_GlyphBlanks.l0 kq l2 t299 x9_2 x10_2 = some r) ∧ Aside0 (kq ≤ kj4) ∧ Aside0 (Kd.N k33 33 w' w.heap.size (fun _ => True) v300 t299) ∧ Aside0 (Below w.heap.size w w'))
        case atStart => exact ⟨((⟨#[]⟩ : ByteArray)), (0), (by first | rfl | (simp; done) | (simp [*]; done) | exact isEmpty_bne _), (by first | rfl | (simp; done) | (simp [*]; done) | exact isEmpty_bne _), H', ⟨Nat.le_refl _⟩, ⟨by (with_reducible repeat (first | apply Kd.N_alloc | apply Kd.N_drewN | apply Kd.N_drew)); exact HO301.out⟩, ⟨by repeat (first | (with_reducible first | exact HB.out | apply below_alloc | apply pw_below_drewN | apply below_drew1) | exact HB.out)⟩⟩
        case round =>
          clear H'
          try clear c1
          try clear c2
          try clear p2
          try clear c7
          try clear c8
          try clear c8b0
          try clear c8b1
          try clear c9
          try clear c9b0
          try clear c9b1
          try clear c10
          try clear p2
          obtain ⟨x9_2, x10_2, rfl, rfl, HA, HK2, HO_8, HB⟩ := hrel
          cases gk with
          | zero => exact absurd HA.out (by simp [hatstandlaw3_GlyphBlanks.l0])
          | succ k2 =>
            have H := HA.out
            clear HA
            simp only [hatstandlaw3_GlyphBlanks.l0] at H
            by_cases c13 : x10_2 < (t299.length : Int)
            · rw [if_pos c13] at H
              have c13b0 : decide (x10_2 < (t299.length : Int)) = true := decide_eq_true c13
              clear c13
              by_cases c14 : 0 ≤ x10_2
              · rw [if_pos c14] at H
                have c14b0 : decide (0 ≤ x10_2) = true := decide_eq_true c14
                clear c14
                by_cases c15 : (((rd_T33 t299 x10_2).f1).length : Int) > 20
                · rw [if_pos c15] at H
                  have c15b0 : decide (20 < (((rd_T33 t299 x10_2).f1).length : Int)) = true := decide_eq_true c15
                  have c15b1 : decide (20 < ((rd_T33 t299 x10_2).f1).length) = true := decide_eq_true (by omega)
                  clear c15
                  obtain rfl := Option.some.inj H
                  obtain ⟨Ao16, co16, eo16⟩ := Kd.N_slice HO_8.out
                  subst eo16
                  have p302 : 0 ≤ (x10_2 : Int) := of_decide_eq_true (by first | (with_reducible assumption) | assumption)
                  have q302 : x10_2 < (t299.length : Int) := of_decide_eq_true (by first | (with_reducible assumption) | assumption)
                  obtain ⟨ad302, A302_1, c302_1, e302, hx302_0, hx302_1, hx302_2, hx302_3, hl302_1, hi302_1⟩ := at_T33 (Kd.N_reads' HO_8.out).2.2 x10_2 p302 q302
                  cases e302
                  obtain ⟨ce302, hce302, hMe302, hcc302⟩ := Kd.N_get HO_8.out z33 x10_2 p302 (by first | exact q302 | exact of_decide_eq_true (by first | (with_reducible assumption) | assumption) | (have e_ := (Kd.N_reads' HO_8.out).1; omega))
                  obtain ⟨ua302_1, uc302_1, rfl, ul302_1, ge302_1⟩ := k33_openF hMe302
                  have hv302_1 := hcc302 1 _ rfl
                  rw [add_field _ _ 1 (by omega)] at hv302_1
                  replace hv302_1 := Option.some.inj (hv302_1.symm.trans hx302_1)
                  injection hv302_1 with hva_ hvn_ hvc_
                  rw [hva_] at ge302_1
                  rw [hvc_] at ul302_1
                  have HL302_1 := Aside0.mk (show Kd.V (Kd.int .u64) 51 _ w.heap.size _ _ ((rd_T33 t299 x10_2).f1) from Kd.V_mk ul302_1 ge302_1)
                  clear hva_ hvn_ hvc_ ge302_1 ul302_1
                  clear hcc302 hce302
                  have HR302_1 := Aside0.mk hi302_1
                  have HC302_1 := Aside0.mk hl302_1
                  clear hi302_1 hl302_1
                  replace p302 := eq_true p302
                  replace q302 := eq_true q302
                  go_wp2
                  go_ret
                  exact ⟨by first | rfl | (simp [errW_none, errW_some] <;> rfl) | (simp [*, errW_none, errW_some] <;> rfl), by repeat (first | (with_reducible first | exact HB.out | apply below_alloc | apply pw_below_drewN | apply below_drew1) | exact HB.out)⟩
                · rw [if_neg c15] at H
                  have c15b0 : decide (20 < (((rd_T33 t299 x10_2).f1).length : Int)) = false := decide_eq_false c15
                  have c15b1 : decide (20 < ((rd_T33 t299 x10_2).f1).length) = false := decide_eq_false (by omega)
                  clear c15
                  have c17b0 := eq_true (of_decide_eq_true (by first | (with_reducible assumption) | assumption) : 0 ≤ x10_2)
                  by_cases c18 : x10_2 ≤ (wrap64 (x10_2 + 1))
                  · rw [if_pos c18] at H
                    have c18b0 := eq_true c18
                    have c18b1 : decide (x10_2 ≤ (wrap64 (x10_2 + 1))) = true := decide_eq_true c18
                    by_cases c19 : (wrap64 (x10_2 + 1)) ≤ (t299.length : Int)
                    · rw [if_pos c19] at H
                      have c19b0 := eq_true c19
                      have c19b1 : decide ((wrap64 (x10_2 + 1)) ≤ (t299.length : Int)) = true := decide_eq_true c19
                      obtain ⟨y303, hy303⟩ : ∃ y_ : List (S33), y_ = ((t299.take ((wrap64 (x10_2 + 1)) : Int).toNat).drop (x10_2 : Int).toNat) := ⟨_, rfl⟩
                      replace H : ((glyph_Put.f y303).bind fun bt308 => (if bt308.2 = 0 then (if x9_2.size + bt308.1.size ≤ 9223372036854775807 then (hatstandlaw3_GlyphBlanks.l1 k2 l2 t299 (x9_2 ++ bt308.1) x10_2 0) else (none)) else (some false))) = some r := by first | (rw [hy303]; with_reducible exact H) | (have H2_ := (Option.bind_some _ _).symm.trans H; rw [hy303]; with_reducible exact H2_) | (have H2_ := (Option.bind_some _ _).symm.trans H; with_reducible exact H2_) | with_reducible exact H | (rw [hy303]; exact H) | exact H
                      have Ny303 := Aside0.mk hy303
                      clear hy303
                      replace H := Option.bind_eq_some_iff.mp H
                      obtain ⟨⟨t308, t309⟩, A200, H⟩ := H
                      replace H : (if t309 = 0 then (if x9_2.size + t308.size ≤ 9223372036854775807 then (hatstandlaw3_GlyphBlanks.l1 k2 l2 t299 (x9_2 ++ t308) x10_2 0) else (none)) else (some false)) = some r := H
                      have A20 := Aside0.mk A200
                      clear A200
                      by_cases c21 : t309 = 0
                      · rw [if_pos c21] at H
                        have c21b0 : (t309 == 0) = true := beq_iff_eq.mpr c21
                        have c21b1 : (t309 != 0) = false := bne_eq_false_iff_eq.mpr c21
                        clear c21
                        by_cases c22 : x9_2.size + t308.size ≤ 9223372036854775807
                        · rw [if_pos c22] at H
                          have c22b0 := eq_true c22
                          have c22b1 : decide (x9_2.size + t308.size ≤ 9223372036854775807) = true := decide_eq_true c22
                          try have c22b2 : (9223372036854775807 < x9_2.size + t308.size) = False := eq_false (Nat.not_lt.2 c22)
                          have H' := Aside0.mk H
                          clear H
                          obtain ⟨Ao23, co23, eo23⟩ := Kd.N_slice HO_8.out
                          subst eo23
                          have p302 : 0 ≤ (x10_2 : Int) := of_decide_eq_true (by first | (with_reducible assumption) | assumption)
                          have q302 : x10_2 < (t299.length : Int) := of_decide_eq_true (by first | (with_reducible assumption) | assumption)
                          obtain ⟨ad302, A302_1, c302_1, e302, hx302_0, hx302_1, hx302_2, hx302_3, hl302_1, hi302_1⟩ := at_T33 (Kd.N_reads' HO_8.out).2.2 x10_2 p302 q302
                          cases e302
                          obtain ⟨ce302, hce302, hMe302, hcc302⟩ := Kd.N_get HO_8.out z33 x10_2 p302 (by first | exact q302 | exact of_decide_eq_true (by first | (with_reducible assumption) | assumption) | (have e_ := (Kd.N_reads' HO_8.out).1; omega))
                          obtain ⟨ua302_1, uc302_1, rfl, ul302_1, ge302_1⟩ := k33_openF hMe302
                          have hv302_1 := hcc302 1 _ rfl
                          rw [add_field _ _ 1 (by omega)] at hv302_1
                          replace hv302_1 := Option.some.inj (hv302_1.symm.trans hx302_1)
                          injection hv302_1 with hva_ hvn_ hvc_
                          rw [hva_] at ge302_1
                          rw [hvc_] at ul302_1
                          have HL302_1 := Aside0.mk (show Kd.V (Kd.int .u64) 51 _ w.heap.size _ _ ((rd_T33 t299 x10_2).f1) from Kd.V_mk ul302_1 ge302_1)
                          clear hva_ hvn_ hvc_ ge302_1 ul302_1
                          clear hcc302 hce302
                          have HR302_1 := Aside0.mk hi302_1
                          have HC302_1 := Aside0.mk hl302_1
                          clear hi302_1 hl302_1
                          replace p302 := eq_true p302
                          replace q302 := eq_true q302
                          have q24 : ((wrap64 (x10_2 + 1)) : Int) ≤ ((t299.length : Int) : Int) := of_decide_eq_true (by first | (with_reducible assumption) | assumption)
                          obtain ⟨i024, hi024, _, hsz24, _⟩ := info_parts info33
                          have hroom24 : t299.length ≤ co23 := (Kd.N_reads' HO_8.out).2.1
                          have hC24 : Kd.F k33 _ _ (some ad302) t299.length t299 := (Kd.V_at (base := w.heap.size) (Kd.N_V HO_8.out)).2.2
                          have ql24 : (x10_2 : Int) ≤ ((wrap64 (x10_2 + 1)) : Int) := of_decide_eq_true (by first | (with_reducible assumption) | assumption)
                          have q024 : (0 : Int) ≤ (x10_2 : Int) := of_decide_eq_true (by first | (with_reducible assumption) | assumption)
                          have hcut24 := cut_mid (P := Tryd.prog) 25 33 .i64 .i64 Tryd.underlying25 hi024 4 hsz24 (some ad302) t299.length co23 x10_2 (wrap64 (x10_2 + 1)) q024 ql24 q24 hroom24
                          have hr24 := Kd.F_mid (lo := (x10_2 : Int).toNat) (hi := ((wrap64 (x10_2 + 1)) : Int).toNat) (c := co23) hC24 (by omega) (by omega) hroom24
                          obtain ⟨A24, hA24⟩ : ∃ A1, A1 = (if co23 = (x10_2 : Int).toNat then (some ad302) else ((some ad302) : Option Addr).map (·.add ((x10_2 : Int).toNat * 4))) := ⟨_, rfl⟩
                          obtain ⟨c24, hc24⟩ : ∃ c1, c1 = co23 - (x10_2 : Int).toNat := ⟨_, rfl⟩
                          have hy24 : y303.length = ((wrap64 (x10_2 + 1)) : Int).toNat - (x10_2 : Int).toNat := (by rw [Ny303.out, List.length_drop, List.length_take] <;> omega)
                          rw [show ((t299).take ((wrap64 (x10_2 + 1)) : Int).toNat).drop (x10_2 : Int).toNat = y303 from Ny303.out.symm] at hr24
                          replace hr24 : Kd.F k33 _ _ A24 y303.length y303 := (by rw [hA24]; exact hr24)
                          rw [← hy24, ← hA24, ← hc24] at hcut24
                          have HO307 := Aside0.mk (show Kd.V k33 33 _ w.heap.size _ (.slice A24 y303.length c24) y303 from Kd.V_mk (by rw [hy24, hc24]; exact Nat.sub_le_sub_right (Nat.le_trans (by omega) hroom24) _) hr24)
                          have HC307 := Aside0.mk (show y303.length ≤ c24 from by rw [hy24, hc24]; exact Nat.sub_le_sub_right (Nat.le_trans (by omega) hroom24) _)
                          clear hr24 hC24 hroom24 hi024 hsz24 hc24
                          have KY24 := Aside0.mk hy24
                          have KA24 := Aside0.mk hA24
                          clear hy24 hA24
                          replace q24 := eq_true q24
                          go_wp2_with (first | ((with_reducible refine gate_callee (f := 14) rfl ?_); refine goesL_ (some 55) rfl rfl Tryd.func14 (by kernel_rfl) rfl #[.slice A24 y303.length c24] rfl (by (try simp only [List.map_toArray, List.map_cons, List.map_nil]); first | done | rfl | (simp only [List.length_drop, List.length_take]; rfl)) ?_; (with_reducible refine (glyph_Put.calls _ _ y303 t308 t309 _ ?side1 ?side2 ?side3 A20.out).mono ?_); (case side1 => repeat (first | exact (Kd.V_reads' HO307.out).2.2 | (with_reducible refine Kd.C_alloc ?_ _) | (with_reducible refine Kd.C_drewN ?_ _) | (with_reducible refine Kd.C_drew ?_))); (case side2 => exact (Kd.V_reads' HO307.out).2.1); (case side3 => exact GG_at hG (by repeat (first | (with_reducible first | exact HB.out | apply below_alloc | apply pw_below_drewN | apply below_drew1) | exact HB.out))); rintro e w25 ⟨rfl, hb⟩; refine ⟨_, rfl, ?_⟩; have n0_ := Aside0.mk (Kd.N_below (by (with_reducible repeat (first | apply Kd.N_alloc | apply Kd.N_drewN | apply Kd.N_drew)); exact HO_8.out) hb); have n1_ := Aside0.mk (Kd.V_below (by (with_reducible repeat (first | apply Kd.V_alloc | apply Kd.V_drewN | apply Kd.V_drew)); exact HL302_1.out) hb); have n2_ := Aside0.mk (Kd.V_below (by (with_reducible repeat (first | apply Kd.V_alloc | apply Kd.V_drewN | apply Kd.V_drew)); exact HO307.out) hb); have n3_ := Aside0.mk (Kd.C_below (by repeat (first | (with_reducible exact HR302_1.out) | (with_reducible refine Kd.C_alloc ?_ _) | (with_reducible refine Kd.C_drewN ?_ _) | (with_reducible refine Kd.C_drew ?_) | exact HR302_1.out)) hb); have n4_ := Aside0.mk (below_step (by repeat (first | (with_reducible first | exact HB.out | apply below_alloc | apply pw_below_drewN | apply below_drew1) | exact HB.out)) hb); clear HO_8; clear HL302_1; clear HO307; clear HR302_1; clear HB; have HO_8 := n0_; have HL302_1 := n1_; have HO307 := n2_; have HR302_1 := n3_; have HB := n4_; clear n0_ n1_ n2_ n3_ n4_; (try clear hb); (try clear hb2); (try clear hk); (try clear hi)))
                          go_loopg [9, 13] k2 (fun kq v9 v13 w' => ∃ (x9_3 : ByteArray) (x13_3 : Int), v9 = .string x9_3 ∧ v13 = .int .i64 x13_3 ∧ Aside0 (hatstandlaw3_GlyphBlanks.l1 kq l2 t299 x9_3 x10_2 x13_3 = some r) ∧ Aside0 (kq ≤ k2) ∧ Aside0 (Kd.N k33 33 w' w.heap.size (fun _ => True) (.slice (some ad302) t299.length co23) t299) ∧ Aside0 (Kd.C (Kd.int .u64) w' A302_1 ((rd_T33 t299 x10_2).f1).length ((rd_T33 t299 x10_2).f1)) ∧ Aside0 (Below w.heap.size w w'))
                          case atStart => exact ⟨(x9_2 ++ t308), (0), (by first | rfl | (simp; done) | (simp [*]; done) | exact isEmpty_bne _), (by first | rfl | (simp; done) | (simp [*]; done) | exact isEmpty_bne _), H', ⟨Nat.le_refl _⟩, ⟨by (with_reducible repeat (first | apply Kd.N_alloc | apply Kd.N_drewN | apply Kd.N_drew)); exact HO_8.out⟩, ⟨by repeat (first | (with_reducible exact HR302_1.out) | (with_reducible refine Kd.C_alloc ?_ _) | (with_reducible refine Kd.C_drewN ?_ _) | (with_reducible refine Kd.C_drew ?_) | exact HR302_1.out)⟩, ⟨by repeat (first | (with_reducible first | exact HB.out | apply below_alloc | apply pw_below_drewN | apply below_drew1) | exact HB.out)⟩⟩
                          case round =>
                            clear H'
                            try clear c1
                            try clear c2
                            try clear p2
                            try clear q2
                            try clear c3
                            try clear p3
                            try clear q3
                            try clear hx3
                            try clear p6
                            try clear c7
                            try clear c8
                            try clear c8b0
                            try clear c8b1
                            try clear c9
                            try clear c9b0
                            try clear c9b1
                            try clear c10
                            try clear c13
                            try clear c13b0
                            try clear c14
                            try clear c14b0
                            try clear c15
                            try clear c15b0
                            try clear c15b1
                            try clear c17
                            try clear c17b0
                            try clear c18
                            try clear c18b0
                            try clear c18b1
                            try clear c19
                            try clear c19b0
                            try clear c19b1
                            try clear c21
                            try clear c21b0
                            try clear c21b1
                            try clear c22
                            try clear c22b0
                            try clear c22b1
                            try clear c22b2
                            try clear c24
                            try clear q24
                            try clear hx302_0
                            try clear hx302_1
                            try clear hx302_2
                            try clear hx302_3
                            try clear p2
                            try clear p302
                            try clear q024
                            try clear q24
                            try clear q302
                            obtain ⟨x9_3, x13_3, rfl, rfl, HA, HK3, HO_8, HR302_1, HB⟩ := hrel
                            cases gk with
                            | zero => exact absurd HA.out (by simp [hatstandlaw3_GlyphBlanks.l1])
                            | succ k3 =>
                              have H := HA.out
                              clear HA
                              simp only [hatstandlaw3_GlyphBlanks.l1] at H
                              by_cases c26 : x10_2 < (l2.length : Int)
                              · rw [if_pos c26] at H
                                have c26b0 : decide (x10_2 < (l2.length : Int)) = true := decide_eq_true c26
                                clear c26
                                by_cases c27 : 0 ≤ x10_2
                                · rw [if_pos c27] at H
                                  have c27b0 : decide (0 ≤ x10_2) = true := decide_eq_true c27
                                  clear c27
                                  replace H := Option.bind_eq_some_iff.mp H
                                  obtain ⟨t311, A280, H⟩ := H
                                  replace H : (if x13_3 < t311 then ((some (([(⟨#[32]⟩ : ByteArray), (⟨#[9]⟩ : ByteArray), (⟨#[10]⟩ : ByteArray)] : List ByteArray) : List ByteArray)).bind fun y312 => ((hatstandlaw3_pick.f (wrap64 ((wrap64 (Int.tdiv (rd l2 x10_2) 4)) + x13_3)) 3).bind fun t316 => (if 0 ≤ t316 then (if t316 < (y312.length : Int) then (if x9_3.size + (rdOf ByteArray.empty y312 t316).size ≤ 9223372036854775807 then (hatstandlaw3_GlyphBlanks.l1 k3 l2 t299 (x9_3 ++ (rdOf ByteArray.empty y312 t316)) x10_2 (wrap64 (x13_3 + 1))) else (none)) else (none)) else (none)))) else (hatstandlaw3_GlyphBlanks.l0 k3 l2 t299 x9_3 (wrap64 (x10_2 + 1)))) = some r := H
                                  have A28 := Aside0.mk A280
                                  clear A280
                                  by_cases c29 : x13_3 < t311
                                  · rw [if_pos c29] at H
                                    have c29b0 : decide (x13_3 < t311) = true := decide_eq_true c29
                                    clear c29
                                    obtain ⟨y312, hy312⟩ : ∃ y_ : List ByteArray, y_ = (([(⟨#[32]⟩ : ByteArray), (⟨#[9]⟩ : ByteArray), (⟨#[10]⟩ : ByteArray)] : List ByteArray)) := ⟨_, rfl⟩
                                    replace H : ((hatstandlaw3_pick.f (wrap64 ((wrap64 (Int.tdiv (rd l2 x10_2) 4)) + x13_3)) 3).bind fun t316 => (if 0 ≤ t316 then (if t316 < (y312.length : Int) then (if x9_3.size + (rdOf ByteArray.empty y312 t316).size ≤ 9223372036854775807 then (hatstandlaw3_GlyphBlanks.l1 k3 l2 t299 (x9_3 ++ (rdOf ByteArray.empty y312 t316)) x10_2 (wrap64 (x13_3 + 1))) else (none)) else (none)) else (none))) = some r := by first | (rw [hy312]; with_reducible exact H) | (have H2_ := (Option.bind_some _ _).symm.trans H; rw [hy312]; with_reducible exact H2_) | (have H2_ := (Option.bind_some _ _).symm.trans H; with_reducible exact H2_) | with_reducible exact H | (rw [hy312]; exact H) | exact H
                                    have Ny312 := Aside0.mk hy312
                                    clear hy312
                                    replace H := Option.bind_eq_some_iff.mp H
                                    obtain ⟨t316, A300, H⟩ := H
                                    replace H : (if 0 ≤ t316 then (if t316 < (y312.length : Int) then (if x9_3.size + (rdOf ByteArray.empty y312 t316).size ≤ 9223372036854775807 then (hatstandlaw3_GlyphBlanks.l1 k3 l2 t299 (x9_3 ++ (rdOf ByteArray.empty y312 t316)) x10_2 (wrap64 (x13_3 + 1))) else (none)) else (none)) else (none)) = some r := H
                                    have A30 := Aside0.mk A300
                                    clear A300
                                    by_cases c31 : 0 ≤ t316
                                    · rw [if_pos c31] at H
                                      have c31b0 : decide (0 ≤ t316) = true := decide_eq_true c31
                                      clear c31
                                      by_cases c32 : t316 < (y312.length : Int)
                                      · rw [if_pos c32] at H
                                        have c32b0 : decide (t316 < (y312.length : Int)) = true := decide_eq_true c32
                                        clear c32
                                        by_cases c33 : x9_3.size + (rdOf ByteArray.empty y312 t316).size ≤ 9223372036854775807
                                        · rw [if_pos c33] at H
                                          have c33b0 := eq_true c33
                                          have c33b1 : decide (x9_3.size + (rdOf ByteArray.empty y312 t316).size ≤ 9223372036854775807) = true := decide_eq_true c33
                                          try have c33b2 : (9223372036854775807 < x9_3.size + (rdOf ByteArray.empty y312 t316).size) = False := eq_false (Nat.not_lt.2 c33)
                                          have H' := Aside0.mk H
                                          clear H
                                          have p310 : 0 ≤ (x10_2 : Int) := of_decide_eq_true (by first | (with_reducible assumption) | assumption)
                                          have q310 : x10_2 < (l2.length : Int) := of_decide_eq_true (by first | (with_reducible assumption) | assumption)
                                          obtain ⟨ad310, e310, hx310_0⟩ := Kd.at_int HR2.out x10_2 p310 q310
                                          cases e310
                                          replace hx310_0 := (HB.out.cell (World.block_lt_of_cell? w _ hx310_0)).trans hx310_0
                                          replace p310 := eq_true p310
                                          replace q310 := eq_true q310
                                          go_wp2_with (first | (go_at_call 18; (with_reducible refine (hatstandlaw3_pick.calls (rd l2 x10_2) 4 t311 _ A28.out).mono ?_); rintro e w' ⟨rfl, ⟨nd, rfl⟩⟩) | ((with_reducible refine gate_dst (N := 79) rfl ?_); (try (refine gate_guard (by rfl) ?_; dsimp only)); refine Kd.R_lit Kd.string _ 9 ?hg (N := 79) ?hd (xs := ([(⟨#[32]⟩ : ByteArray), (⟨#[9]⟩ : ByteArray), (⟨#[10]⟩ : ByteArray)] : List ByteArray)) (inner := [.string (⟨#[32]⟩ : ByteArray), .string (⟨#[9]⟩ : ByteArray), .string (⟨#[10]⟩ : ByteArray)]) (ok := fun _ => True) (okp := fun _ => True) ?hr ?hp (fun _ hk => hk) trivial (Below.refl _ _) (Nat.le_refl _) (by simp) ?_; (case hd => rfl); (case hg => rfl); (case hr => first | (go_simp; done) | (go_simp; rfl)); (case hp => exact (Reps.one (show Kd.M Kd.string _ _ _ (⟨#[32]⟩ : ByteArray) [.string (⟨#[32]⟩ : ByteArray)] from rfl) (Reps.one (show Kd.M Kd.string _ _ _ (⟨#[9]⟩ : ByteArray) [.string (⟨#[9]⟩ : ByteArray)] from rfl) (Reps.one (show Kd.M Kd.string _ _ _ (⟨#[10]⟩ : ByteArray) [.string (⟨#[10]⟩ : ByteArray)] from rfl) (Reps.none _ _))))); intro v313 w34 ho35 hb hg_ hnew_; clear hg_ hnew_; (first | rw [← Ny312.out] at ho35 | (simp only [Int.reduceToNat] at ho35; rw [← Ny312.out] at ho35)); have n0_ := Aside0.mk (Kd.N_elder' (by (with_reducible repeat (first | apply Kd.N_alloc | apply Kd.N_drewN | apply Kd.N_drew)); exact HO_8.out) (Kd.R_base ho35) hb); have n1_ := Aside0.mk (Kd.R_lower ho35 (below_size (by repeat (first | (with_reducible first | exact HB.out | apply below_alloc | apply pw_below_drewN | apply below_drew1) | exact HB.out)))); have n2_ := Aside0.mk (Kd.C_below (by repeat (first | (with_reducible exact HR302_1.out) | (with_reducible refine Kd.C_alloc ?_ _) | (with_reducible refine Kd.C_drewN ?_ _) | (with_reducible refine Kd.C_drew ?_) | exact HR302_1.out)) hb); have n3_ := Aside0.mk (below_step (by repeat (first | (with_reducible first | exact HB.out | apply below_alloc | apply pw_below_drewN | apply below_drew1) | exact HB.out)) hb); clear HO_8; clear HR302_1; clear HB; have HO_8 := n0_; have HO314 := n1_; have HR302_1 := n2_; have HB := n3_; clear n0_ n1_ n2_ n3_; clear hb ho35; have p315 : 0 ≤ (x10_2 : Int) := of_decide_eq_true (by first | (with_reducible assumption) | assumption); have q315 : x10_2 < (l2.length : Int) := of_decide_eq_true (by first | (with_reducible assumption) | assumption); obtain ⟨ad315, e315, hx315_0⟩ := Kd.at_int HR2.out x10_2 p315 q315; obtain rfl : ad310 = ad315 := (by injection e315); replace hx315_0 := (HB.out.cell (World.block_lt_of_cell? w _ hx315_0)).trans hx315_0; replace p315 := eq_true p315; replace q315 := eq_true q315) | ((with_reducible refine gate_callee (f := 18) rfl ?_); refine goesL_ (some 87) rfl rfl Tryd.func18 (by kernel_rfl) rfl #[.int .i64 (wrap64 ((wrap64 (Int.tdiv (rd l2 x10_2) 4)) + x13_3)), .int .i64 3] rfl (by (try simp only [List.map_toArray, List.map_cons, List.map_nil]); first | done | rfl | (simp only [List.length_drop, List.length_take]; rfl)) ?_; (with_reducible refine (hatstandlaw3_pick.calls (wrap64 ((wrap64 (Int.tdiv (rd l2 x10_2) 4)) + x13_3)) 3 t316 _ A30.out).mono ?_); rintro e w' ⟨rfl, ⟨nd, rfl⟩⟩; refine ⟨_, rfl, ?_⟩; obtain ⟨Ao36, co36, eo36⟩ := Kd.R_slice HO314.out; subst eo36; have p317 : 0 ≤ (t316 : Int) := of_decide_eq_true (by first | (with_reducible assumption) | assumption); have q317 : t316 < (y312.length : Int) := of_decide_eq_true (by first | (with_reducible assumption) | assumption); obtain ⟨ad317, e317, hx317_0⟩ := Kd.at_string (Kd.R_reads' HO314.out).2.2 t316 p317 q317; cases e317; replace p317 := eq_true p317; replace q317 := eq_true q317))
                                          go_roundg k3
                                          case measure => have := HJ4.out; have := HK2.out; have := HK3.out; omega
                                          case rel => exact ⟨(x9_3 ++ (rdOf ByteArray.empty y312 t316)), (wrap64 (x13_3 + 1)), (by first | rfl | (simp; done) | (simp [*]; done) | exact isEmpty_bne _), (by first | rfl | (simp; done) | (simp [*]; done) | exact isEmpty_bne _), H', ⟨by have := HJ4.out; have := HK2.out; have := HK3.out; omega⟩, ⟨by (with_reducible repeat (first | apply Kd.N_alloc | apply Kd.N_drewN | apply Kd.N_drew)); exact Kd.N_mono HO_8.out (fun _ hk => trivial)⟩, ⟨by repeat (first | (with_reducible exact HR302_1.out) | (with_reducible refine Kd.C_alloc ?_ _) | (with_reducible refine Kd.C_drewN ?_ _) | (with_reducible refine Kd.C_drew ?_) | exact HR302_1.out)⟩, ⟨by repeat (first | (with_reducible first | exact HB.out | apply below_alloc | apply pw_below_drewN | apply below_drew1) | exact HB.out)⟩⟩
                                        · rw [if_neg c33] at H
                                          exact absurd H (by simp)
                                      · rw [if_neg c32] at H
                                        exact absurd H (by simp)
                                    · rw [if_neg c31] at H
                                      exact absurd H (by simp)
                                  · rw [if_neg c29] at H
                                    have c29b0 : decide (x13_3 < t311) = false := decide_eq_false c29
                                    clear c29
                                    have H' := Aside0.mk H
                                    clear H
                                    have p310 : 0 ≤ (x10_2 : Int) := of_decide_eq_true (by first | (with_reducible assumption) | assumption)
                                    have q310 : x10_2 < (l2.length : Int) := of_decide_eq_true (by first | (with_reducible assumption) | assumption)
                                    obtain ⟨ad310, e310, hx310_0⟩ := Kd.at_int HR2.out x10_2 p310 q310
                                    cases e310
                                    replace hx310_0 := (HB.out.cell (World.block_lt_of_cell? w _ hx310_0)).trans hx310_0
                                    replace p310 := eq_true p310
                                    replace q310 := eq_true q310
                                    go_wp2_with (first | (go_at_call 18; (with_reducible refine (hatstandlaw3_pick.calls (rd l2 x10_2) 4 t311 _ A28.out).mono ?_); rintro e w' ⟨rfl, ⟨nd, rfl⟩⟩))
                                    go_roundg k3
                                    case measure => have := HJ4.out; have := HK2.out; have := HK3.out; omega
                                    case rel => exact ⟨(x9_3), (wrap64 (x10_2 + 1)), (by first | rfl | (simp; done) | (simp [*]; done) | exact isEmpty_bne _), (by first | rfl | (simp; done) | (simp [*]; done) | exact isEmpty_bne _), H', ⟨by have := HJ4.out; have := HK2.out; have := HK3.out; omega⟩, ⟨by (with_reducible repeat (first | apply Kd.N_alloc | apply Kd.N_drewN | apply Kd.N_drew)); exact HO_8.out⟩, ⟨by repeat (first | (with_reducible first | exact HB.out | apply below_alloc | apply pw_below_drewN | apply below_drew1) | exact HB.out)⟩⟩
                                · rw [if_neg c27] at H
                                  exact absurd H (by simp)
                              · rw [if_neg c26] at H
                                have c26b0 : decide (x10_2 < (l2.length : Int)) = false := decide_eq_false c26
                                clear c26
                                have H' := Aside0.mk H
                                clear H
                                go_wp2
                                go_roundg k3
                                case measure => have := HJ4.out; have := HK2.out; have := HK3.out; omega
                                case rel => exact ⟨(x9_3), (wrap64 (x10_2 + 1)), (by first | rfl | (simp; done) | (simp [*]; done) | exact isEmpty_bne _), (by first | rfl | (simp; done) | (simp [*]; done) | exact isEmpty_bne _), H', ⟨by have := HJ4.out; have := HK2.out; have := HK3.out; omega⟩, ⟨by (with_reducible repeat (first | apply Kd.N_alloc | apply Kd.N_drewN | apply Kd.N_drew)); exact HO_8.out⟩, ⟨by repeat (first | (with_reducible first | exact HB.out | apply below_alloc | apply pw_below_drewN | apply below_drew1) | exact HB.out)⟩⟩
                        · rw [if_neg c22] at H
                          exact absurd H (by simp)
                      · rw [if_neg c21] at H
                        have c21b0 : (t309 == 0) = false := beq_eq_false_iff_ne.mpr c21
                        have c21b1 : (t309 != 0) = true := bne_iff_ne.mpr c21
                        obtain rfl := Option.some.inj H
                        obtain ⟨Ao37, co37, eo37⟩ := Kd.N_slice HO_8.out
                        subst eo37
                        have p302 : 0 ≤ (x10_2 : Int) := of_decide_eq_true (by first | (with_reducible assumption) | assumption)
                        have q302 : x10_2 < (t299.length : Int) := of_decide_eq_true (by first | (with_reducible assumption) | assumption)
                        obtain ⟨ad302, A302_1, c302_1, e302, hx302_0, hx302_1, hx302_2, hx302_3, hl302_1, hi302_1⟩ := at_T33 (Kd.N_reads' HO_8.out).2.2 x10_2 p302 q302
                        cases e302
                        obtain ⟨ce302, hce302, hMe302, hcc302⟩ := Kd.N_get HO_8.out z33 x10_2 p302 (by first | exact q302 | exact of_decide_eq_true (by first | (with_reducible assumption) | assumption) | (have e_ := (Kd.N_reads' HO_8.out).1; omega))
                        obtain ⟨ua302_1, uc302_1, rfl, ul302_1, ge302_1⟩ := k33_openF hMe302
                        have hv302_1 := hcc302 1 _ rfl
                        rw [add_field _ _ 1 (by omega)] at hv302_1
                        replace hv302_1 := Option.some.inj (hv302_1.symm.trans hx302_1)
                        injection hv302_1 with hva_ hvn_ hvc_
                        rw [hva_] at ge302_1
                        rw [hvc_] at ul302_1
                        have HL302_1 := Aside0.mk (show Kd.V (Kd.int .u64) 51 _ w.heap.size _ _ ((rd_T33 t299 x10_2).f1) from Kd.V_mk ul302_1 ge302_1)
                        clear hva_ hvn_ hvc_ ge302_1 ul302_1
                        clear hcc302 hce302
                        have HR302_1 := Aside0.mk hi302_1
                        have HC302_1 := Aside0.mk hl302_1
                        clear hi302_1 hl302_1
                        replace p302 := eq_true p302
                        replace q302 := eq_true q302
                        have q38 : ((wrap64 (x10_2 + 1)) : Int) ≤ ((t299.length : Int) : Int) := of_decide_eq_true (by first | (with_reducible assumption) | assumption)
                        obtain ⟨i038, hi038, _, hsz38, _⟩ := info_parts info33
                        have hroom38 : t299.length ≤ co37 := (Kd.N_reads' HO_8.out).2.1
                        have hC38 : Kd.F k33 _ _ (some ad302) t299.length t299 := (Kd.V_at (base := w.heap.size) (Kd.N_V HO_8.out)).2.2
                        have ql38 : (x10_2 : Int) ≤ ((wrap64 (x10_2 + 1)) : Int) := of_decide_eq_true (by first | (with_reducible assumption) | assumption)
                        have q038 : (0 : Int) ≤ (x10_2 : Int) := of_decide_eq_true (by first | (with_reducible assumption) | assumption)
                        have hcut38 := cut_mid (P := Tryd.prog) 25 33 .i64 .i64 Tryd.underlying25 hi038 4 hsz38 (some ad302) t299.length co37 x10_2 (wrap64 (x10_2 + 1)) q038 ql38 q38 hroom38
                        have hr38 := Kd.F_mid (lo := (x10_2 : Int).toNat) (hi := ((wrap64 (x10_2 + 1)) : Int).toNat) (c := co37) hC38 (by omega) (by omega) hroom38
                        obtain ⟨A38, hA38⟩ : ∃ A1, A1 = (if co37 = (x10_2 : Int).toNat then (some ad302) else ((some ad302) : Option Addr).map (·.add ((x10_2 : Int).toNat * 4))) := ⟨_, rfl⟩
                        obtain ⟨c38, hc38⟩ : ∃ c1, c1 = co37 - (x10_2 : Int).toNat := ⟨_, rfl⟩
                        have hy38 : y303.length = ((wrap64 (x10_2 + 1)) : Int).toNat - (x10_2 : Int).toNat := (by rw [Ny303.out, List.length_drop, List.length_take] <;> omega)
                        rw [show ((t299).take ((wrap64 (x10_2 + 1)) : Int).toNat).drop (x10_2 : Int).toNat = y303 from Ny303.out.symm] at hr38
                        replace hr38 : Kd.F k33 _ _ A38 y303.length y303 := (by rw [hA38]; exact hr38)
                        rw [← hy38, ← hA38, ← hc38] at hcut38
                        have HO307 := Aside0.mk (show Kd.V k33 33 _ w.heap.size _ (.slice A38 y303.length c38) y303 from Kd.V_mk (by rw [hy38, hc38]; exact Nat.sub_le_sub_right (Nat.le_trans (by omega) hroom38) _) hr38)
                        have HC307 := Aside0.mk (show y303.length ≤ c38 from by rw [hy38, hc38]; exact Nat.sub_le_sub_right (Nat.le_trans (by omega) hroom38) _)
                        clear hr38 hC38 hroom38 hi038 hsz38 hc38
                        have KY38 := Aside0.mk hy38
                        have KA38 := Aside0.mk hA38
                        clear hy38 hA38
                        replace q38 := eq_true q38
                        go_wp2_with (first | ((with_reducible refine gate_callee (f := 14) rfl ?_); refine goesL_ (some 55) rfl rfl Tryd.func14 (by kernel_rfl) rfl #[.slice A38 y303.length c38] rfl (by (try simp only [List.map_toArray, List.map_cons, List.map_nil]); first | done | rfl | (simp only [List.length_drop, List.length_take]; rfl)) ?_; (with_reducible refine (glyph_Put.calls _ _ y303 t308 t309 _ ?side1 ?side2 ?side3 A20.out).mono ?_); (case side1 => repeat (first | exact (Kd.V_reads' HO307.out).2.2 | (with_reducible refine Kd.C_alloc ?_ _) | (with_reducible refine Kd.C_drewN ?_ _) | (with_reducible refine Kd.C_drew ?_))); (case side2 => exact (Kd.V_reads' HO307.out).2.1); (case side3 => exact GG_at hG (by repeat (first | (with_reducible first | exact HB.out | apply below_alloc | apply pw_below_drewN | apply below_drew1) | exact HB.out))); rintro e w39 ⟨rfl, hb⟩; refine ⟨_, rfl, ?_⟩; have n0_ := Aside0.mk (Kd.N_below (by (with_reducible repeat (first | apply Kd.N_alloc | apply Kd.N_drewN | apply Kd.N_drew)); exact HO_8.out) hb); have n1_ := Aside0.mk (Kd.V_below (by (with_reducible repeat (first | apply Kd.V_alloc | apply Kd.V_drewN | apply Kd.V_drew)); exact HL302_1.out) hb); have n2_ := Aside0.mk (Kd.V_below (by (with_reducible repeat (first | apply Kd.V_alloc | apply Kd.V_drewN | apply Kd.V_drew)); exact HO307.out) hb); have n3_ := Aside0.mk (Kd.C_below (by repeat (first | (with_reducible exact HR302_1.out) | (with_reducible refine Kd.C_alloc ?_ _) | (with_reducible refine Kd.C_drewN ?_ _) | (with_reducible refine Kd.C_drew ?_) | exact HR302_1.out)) hb); have n4_ := Aside0.mk (below_step (by repeat (first | (with_reducible first | exact HB.out | apply below_alloc | apply pw_below_drewN | apply below_drew1) | exact HB.out)) hb); clear HO_8; clear HL302_1; clear HO307; clear HR302_1; clear HB; have HO_8 := n0_; have HL302_1 := n1_; have HO307 := n2_; have HR302_1 := n3_; have HB := n4_; clear n0_ n1_ n2_ n3_ n4_; (try clear hb); (try clear hb2); (try clear hk); (try clear hi)))
                        go_ret
                        exact ⟨by first | rfl | (simp [errW_none, errW_some] <;> rfl) | (simp [*, errW_none, errW_some] <;> rfl), by repeat (first | (with_reducible first | exact HB.out | apply below_alloc | apply pw_below_drewN | apply below_drew1) | exact HB.out)⟩
                    · rw [if_neg c19] at H
                      exact absurd H (by simp)
                  · rw [if_neg c18] at H
                    exact absurd H (by simp)
              · rw [if_neg c14] at H
                exact absurd H (by simp)
            · rw [if_neg c13] at H
              have c13b0 : decide (x10_2 < (t299.length : Int)) = false := decide_eq_false c13
              clear c13
              replace H := Option.bind_eq_some_iff.mp H
              obtain ⟨t318, A400, H⟩ := H
              replace H : ((hatstandlaw3_as.f k2 t318).bind fun t321 => ((hatstandlaw3_as.f k2 t299).bind fun t324 => ((hatstandref3_Same.f k2 t321 t324 false).bind fun t327 => (some t327)))) = some r := H
              have A40 := Aside0.mk A400
              clear A400
              replace H := Option.bind_eq_some_iff.mp H
              obtain ⟨t321, A410, H⟩ := H
              replace H : ((hatstandlaw3_as.f k2 t299).bind fun t324 => ((hatstandref3_Same.f k2 t321 t324 false).bind fun t327 => (some t327))) = some r := H
              have A41 := Aside0.mk A410
              clear A410
              replace H := Option.bind_eq_some_iff.mp H
              obtain ⟨t324, A420, H⟩ := H
              replace H : ((hatstandref3_Same.f k2 t321 t324 false).bind fun t327 => (some t327)) = some r := H
              have A42 := Aside0.mk A420
              clear A420
              replace H := Option.bind_eq_some_iff.mp H
              obtain ⟨t327, A430, H⟩ := H
              replace H : (some t327) = some r := H
              have A43 := Aside0.mk A430
              clear A430
              obtain rfl := Option.some.inj H
              obtain ⟨Ao44, co44, eo44⟩ := Kd.N_slice HO_8.out
              subst eo44
              go_wp2_with (first | ((with_reducible refine gate_callee (f := 12) rfl ?_); refine goesL_ (some 92) rfl rfl Tryd.func12 (by kernel_rfl) rfl #[.string x9_2] rfl (by (try simp only [List.map_toArray, List.map_cons, List.map_nil]); first | done | rfl | (simp only [List.length_drop, List.length_take]; rfl)) ?_; (with_reducible refine (glyph_Parse.calls x9_2 t318 _ ?side1 A40.out).mono ?_); (case side1 => exact GG_at hG (by repeat (first | (with_reducible first | exact HB.out | apply below_alloc | apply pw_below_drewN | apply below_drew1) | exact HB.out))); rintro e w45 ⟨v319, rfl, ho0, hb⟩; refine ⟨_, rfl, ?_⟩; have n0_ := Aside0.mk (Kd.N_elder' (by (with_reducible repeat (first | apply Kd.N_alloc | apply Kd.N_drewN | apply Kd.N_drew)); exact HO_8.out) (Kd.N_base ho0) hb); have n1_ := Aside0.mk (Kd.N_lower (Kd.N_mono (ok' := fun k_ => some k_ ≠ (.slice Ao44 t299.length co44 : Value).ownBlock) ho0 (fun k_ hk_ => (Kd.fresh' (Kd.N_lt (by (with_reducible repeat (first | apply Kd.N_alloc | apply Kd.N_drewN | apply Kd.N_drew)); exact HO_8.out)) k_ hk_))) (below_size (by repeat (first | (with_reducible first | exact HB.out | apply below_alloc | apply pw_below_drewN | apply below_drew1) | exact HB.out)))); have n2_ := Aside0.mk (below_step (by repeat (first | (with_reducible first | exact HB.out | apply below_alloc | apply pw_below_drewN | apply below_drew1) | exact HB.out)) hb); clear HO_8; clear HB; have HO_8 := n0_; have HO320 := n1_; have HB := n2_; clear n0_ n1_ n2_; (try clear hb); (try clear hb2); (try clear hk); (try clear hi); (try clear ho0); obtain ⟨Ao46, co46, eo46⟩ := Kd.N_slice HO320.out; subst eo46) | ((with_reducible refine gate_callee (f := 11) rfl ?_); refine goesL_ (some 93) rfl rfl Tryd.func11 (by kernel_rfl) rfl #[.slice Ao46 t318.length co46] rfl (by (try simp only [List.map_toArray, List.map_cons, List.map_nil]); first | done | rfl | (simp only [List.length_drop, List.length_take]; rfl)) ?_; (with_reducible refine (hatstandlaw3_as.calls k2 (fun k_ => some k_ ≠ (.slice Ao44 t299.length co44 : Value).ownBlock) _ _ t318 t321 _ ?side1 A41.out).mono ?_); (case side1 => exact Kd.N_V (HO320.out)); rintro e w47 ⟨v322, rfl, ho0, hb⟩; refine ⟨_, rfl, ?_⟩; have n0_ := Aside0.mk (Kd.N_elder' (by (with_reducible repeat (first | apply Kd.N_alloc | apply Kd.N_drewN | apply Kd.N_drew)); exact HO_8.out) (Kd.N_base ho0) hb); have n1_ := Aside0.mk (Kd.N_elder' (by (with_reducible repeat (first | apply Kd.N_alloc | apply Kd.N_drewN | apply Kd.N_drew)); exact HO320.out) (Kd.N_base ho0) hb); have n2_ := Aside0.mk (Kd.N_lower (Kd.N_mono (ok' := fun k_ => some k_ ≠ (.slice Ao44 t299.length co44 : Value).ownBlock) ho0 (fun k_ hk_ => Or.elim hk_ (fun hs_ => hs_) (fun hn_ => (Kd.fresh' (Kd.N_lt (by (with_reducible repeat (first | apply Kd.N_alloc | apply Kd.N_drewN | apply Kd.N_drew)); exact HO_8.out)) k_ hn_)))) (below_size (by repeat (first | (with_reducible first | exact HB.out | apply below_alloc | apply pw_below_drewN | apply below_drew1) | exact HB.out)))); have n3_ := Aside0.mk (below_step (by repeat (first | (with_reducible first | exact HB.out | apply below_alloc | apply pw_below_drewN | apply below_drew1) | exact HB.out)) hb); clear HO_8; clear HO320; clear HB; have HO_8 := n0_; have HO320 := n1_; have HO323 := n2_; have HB := n3_; clear n0_ n1_ n2_ n3_; (try clear hb); (try clear hb2); (try clear hk); (try clear hi); (try clear ho0)) | ((with_reducible refine gate_callee (f := 11) rfl ?_); refine goesL_ (some 95) rfl rfl Tryd.func11 (by kernel_rfl) rfl #[.slice Ao44 t299.length co44] rfl (by (try simp only [List.map_toArray, List.map_cons, List.map_nil]); first | done | rfl | (simp only [List.length_drop, List.length_take]; rfl)) ?_; (with_reducible refine (hatstandlaw3_as.calls k2 (fun k_ => ((True ∧ some k_ ≠ (.slice Ao46 t318.length co46 : Value).ownBlock) ∧ some k_ ≠ (v322 : Value).ownBlock)) _ _ t299 t324 _ ?side1 A42.out).mono ?_); (case side1 => exact Kd.N_V (HO_8.out)); rintro e w48 ⟨v325, rfl, ho0, hb⟩; refine ⟨_, rfl, ?_⟩; have n0_ := Aside0.mk (Kd.N_elder' (by (with_reducible repeat (first | apply Kd.N_alloc | apply Kd.N_drewN | apply Kd.N_drew)); exact HO_8.out) (Kd.N_base ho0) hb); have n1_ := Aside0.mk (Kd.N_elder' (by (with_reducible repeat (first | apply Kd.N_alloc | apply Kd.N_drewN | apply Kd.N_drew)); exact HO320.out) (Kd.N_base ho0) hb); have n2_ := Aside0.mk (Kd.N_elder' (by (with_reducible repeat (first | apply Kd.N_alloc | apply Kd.N_drewN | apply Kd.N_drew)); exact HO323.out) (Kd.N_base ho0) hb); have n3_ := Aside0.mk (Kd.N_lower (Kd.N_mono (ok' := fun k_ => some k_ ≠ (.slice Ao46 t318.length co46 : Value).ownBlock ∧ some k_ ≠ (v322 : Value).ownBlock) ho0 (fun k_ hk_ => ⟨Or.elim hk_ (fun hs_ => hs_.1.2) (fun hn_ => (Kd.fresh' (Kd.N_lt (by (with_reducible repeat (first | apply Kd.N_alloc | apply Kd.N_drewN | apply Kd.N_drew)); exact HO320.out)) k_ hn_)), Or.elim hk_ (fun hs_ => hs_.2) (fun hn_ => (Kd.fresh' (Kd.N_lt (by (with_reducible repeat (first | apply Kd.N_alloc | apply Kd.N_drewN | apply Kd.N_drew)); exact HO323.out)) k_ hn_))⟩)) (below_size (by repeat (first | (with_reducible first | exact HB.out | apply below_alloc | apply pw_below_drewN | apply below_drew1) | exact HB.out)))); have n4_ := Aside0.mk (below_step (by repeat (first | (with_reducible first | exact HB.out | apply below_alloc | apply pw_below_drewN | apply below_drew1) | exact HB.out)) hb); clear HO_8; clear HO320; clear HO323; clear HB; have HO_8 := n0_; have HO320 := n1_; have HO323 := n2_; have HO326 := n3_; have HB := n4_; clear n0_ n1_ n2_ n3_ n4_; (try clear hb); (try clear hb2); (try clear hk); (try clear hi); (try clear ho0); obtain ⟨Ao49, co49, eo49⟩ := Kd.N_slice HO323.out; subst eo49; obtain ⟨Ao50, co50, eo50⟩ := Kd.N_slice HO326.out; subst eo50) | ((with_reducible refine gate_callee (f := 13) rfl ?_); refine goesL_ (some 96) rfl rfl Tryd.func13 (by kernel_rfl) rfl #[.slice Ao49 t321.length co49, .slice Ao50 t324.length co50, .bool false] rfl (by (try simp only [List.map_toArray, List.map_cons, List.map_nil]); first | done | rfl | (simp only [List.length_drop, List.length_take]; rfl)) ?_; (with_reducible refine (hatstandref3_Same.calls k2 _ _ t321 _ _ t324 false t327 _ ?side1 ?side2 ?side3 ?side4 A43.out).mono ?_); (case side1 => repeat (first | exact (Kd.N_reads' HO323.out).2.2 | (with_reducible refine Kd.C_alloc ?_ _) | (with_reducible refine Kd.C_drewN ?_ _) | (with_reducible refine Kd.C_drew ?_))); (case side2 => exact (Kd.N_reads' HO323.out).2.1); (case side3 => repeat (first | exact (Kd.N_reads' HO326.out).2.2 | (with_reducible refine Kd.C_alloc ?_ _) | (with_reducible refine Kd.C_drewN ?_ _) | (with_reducible refine Kd.C_drew ?_))); (case side4 => exact (Kd.N_reads' HO326.out).2.1); rintro e w' ⟨rfl, ⟨nd, rfl⟩⟩; refine ⟨_, rfl, ?_⟩))
              go_ret
              exact ⟨by first | rfl | (simp [errW_none, errW_some] <;> rfl) | (simp [*, errW_none, errW_some] <;> rfl), by repeat (first | (with_reducible first | exact HB.out | apply below_alloc | apply pw_below_drewN | apply below_drew1) | exact HB.out)⟩


end Go.Proofs.YtcldjdngfmakbaaDoor.G

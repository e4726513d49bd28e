-- Written by this session's own program wip/tool/myprint.py over the kit's printer; not trusted: Lean checks it.
import Derived.Test.YtcldjdngfmakbaaDoorG0
import Derived.Test.YtcldjdngfmakbaaDoorG1
import Derived.Test.YtcldjdngfmakbaaDoorG2
import Derived.Test.YtcldjdngfmakbaaDoorGlyphParse
import Derived.Test.YtcldjdngfmakbaaDoorGlyphShown
import Derived.Test.YtcldjdngfmakbaaDoorGround
namespace Go.Proofs.YtcldjdngfmakbaaDoor.G
open Go.RowKit Go.Proofs.YtcldjdngfmakbaaDoorW.PrintWords Go.Proofs.YtcldjdngfmakbaaDoorW.PrintLast Go.Proofs.YtcldjdngfmakbaaDoorW.PrintMore
attribute [local go_sem] max2_int min2_int max_two min_two max_three min_three max_four min_four   -- for this text's walks alone
set_option linter.unusedVariables false
set_option linter.unusedSimpArgs false

open Go.Proofs.YtcldjdngfmakbaaDoor
/-! ### hatstandlaw3_GlyphParts: function 3 -/
mutual
def hatstandlaw3_GlyphParts.j0 : Nat → ByteArray → ByteArray → Bool → Bool → Option (Bool)
  | 0, _, _, _, _ => none
  | k + 1, x0, x1, x5, x20 => if x20 = true then (some x5) else (if x0.size + 1 ≤ 9223372036854775807 then ((glyph_Parse.f (x0 ++ (⟨#[32]⟩ : ByteArray))).bind fun t124 => ((hatstandlaw3_as.f k t124).bind fun t127 => ((glyph_Parse.f x1).bind fun t130 => ((hatstandlaw3_as.f k t130).bind fun t133 => (if (x0 ++ (⟨#[32]⟩ : ByteArray)).size + x1.size ≤ 9223372036854775807 then ((glyph_Parse.f ((x0 ++ (⟨#[32]⟩ : ByteArray)) ++ x1)).bind fun t136 => ((hatstandlaw3_as.f k t136).bind fun t139 => (hatstandlaw3_GlyphParts.l0 k x0 t127 t133 t139 0))) else (none)))))) else (none))
def hatstandlaw3_GlyphParts.l0 : Nat → ByteArray → List (S29) → List (S29) → List (S29) → Int → Option (Bool)
  | 0, _, _, _, _, _ => none
  | k + 1, x0, x6, x7, x8, x9 => if x9 < (x7.length : Int) then (if 0 ≤ x9 then (hatstandlaw3_GlyphParts.l0 k x0 x6 (x7.set (x9 : Int).toNat (⟨(rd_T29 x7 x9).f0, (rd_T29 x7 x9).f1, (rd_T29 x7 x9).f2, wrap64 ((wrap64 (((rd_T29 x7 x9).f3) + (x0.size : Int))) + 1)⟩ : S29)) x8 (wrap64 (x9 + 1))) else (none)) else ((some (([] : List (S29)) : List (S29))).bind fun y144 => (if y144.length + x6.length < 2932031007402 then ((some (y144 ++ x6 : List (S29))).bind fun y147 => (if y147.length + x7.length < 2932031007402 then ((hatstandref3_Same.f k x8 (y147 ++ x7) true).bind fun t153 => (if t153 = true then ((glyph_Parse.f x0).bind fun t154 => ((hatstandlaw3_as.f k t154).bind fun t157 => ((hatstandref3_Same.f k x6 t157 true).bind fun t160 => (some t160)))) else (some false))) else (none))) else (none)))
end
def hatstandlaw3_GlyphParts.f (k : Nat) (a0 : ByteArray) (a1 : ByteArray) : Option (Bool) := (hatstandlaw3_shown.f).bind fun t123 => (if t123 = true then (hatstandlaw3_GlyphParts.j0 k a0 a1 t123 (decide ((wrap64 ((a0.size : Int) + (a1.size : Int))) > 1000))) else (hatstandlaw3_GlyphParts.j0 k a0 a1 t123 true))
theorem hatstandlaw3_GlyphParts.mono_l : ∀ k, (∀ y0 y1 y2 y3, LeO (hatstandlaw3_GlyphParts.j0 k y0 y1 y2 y3) (hatstandlaw3_GlyphParts.j0 (k + 1) y0 y1 y2 y3)) ∧ (∀ y0 y1 y2 y3 y4, LeO (hatstandlaw3_GlyphParts.l0 k y0 y1 y2 y3 y4) (hatstandlaw3_GlyphParts.l0 (k + 1) y0 y1 y2 y3 y4))
  | 0 => ⟨fun _ _ _ _ r h => by simp [hatstandlaw3_GlyphParts.j0] at h, fun _ _ _ _ _ r h => by simp [hatstandlaw3_GlyphParts.l0] at h⟩
  | k + 1 => by
    obtain ⟨ih0, ih1⟩ := hatstandlaw3_GlyphParts.mono_l k
    refine ⟨?_, ?_⟩
    · intro y0 y1 y2 y3
      unfold hatstandlaw3_GlyphParts.j0
      repeat' first
      | (with_reducible exact ih0 _ _ _ _)
      | (with_reducible exact ih1 _ _ _ _ _)
      | (with_reducible exact hatstandlaw3_as.mono _ _)
      | (with_reducible exact hatstandref3_Same.mono _ _ _ _)
      | (with_reducible exact LeO.refl _)
      | (with_reducible exact LeO.none _)
      | (with_reducible refine LeO.ite ?_ ?_)
      | (with_reducible refine LeO.bind ?_ (fun _ => ?_))
      | exact ih0 _ _ _ _
      | exact ih1 _ _ _ _ _
      | exact hatstandlaw3_as.mono _ _
      | exact hatstandref3_Same.mono _ _ _ _
      | exact LeO.none _
      | refine LeO.ite ?_ ?_
      | refine LeO.bind ?_ (fun _ => ?_)
    · intro y0 y1 y2 y3 y4
      unfold hatstandlaw3_GlyphParts.l0
      repeat' first
      | (with_reducible exact ih0 _ _ _ _)
      | (with_reducible exact ih1 _ _ _ _ _)
      | (with_reducible exact hatstandlaw3_as.mono _ _)
      | (with_reducible exact hatstandref3_Same.mono _ _ _ _)
      | (with_reducible exact LeO.refl _)
      | (with_reducible exact LeO.none _)
      | (with_reducible refine LeO.ite ?_ ?_)
      | (with_reducible refine LeO.bind ?_ (fun _ => ?_))
      | exact ih0 _ _ _ _
      | exact ih1 _ _ _ _ _
      | exact hatstandlaw3_as.mono _ _
      | exact hatstandref3_Same.mono _ _ _ _
      | exact LeO.none _
      | refine LeO.ite ?_ ?_
      | refine LeO.bind ?_ (fun _ => ?_)
theorem hatstandlaw3_GlyphParts.mono : ∀ a0 a1 k, LeO (hatstandlaw3_GlyphParts.f k a0 a1) (hatstandlaw3_GlyphParts.f (k + 1) a0 a1) := by
  intro a0 a1 k
  obtain ⟨ih0, ih1⟩ := hatstandlaw3_GlyphParts.mono_l k
  unfold hatstandlaw3_GlyphParts.f
  repeat' first
      | (with_reducible exact ih0 _ _ _ _)
      | (with_reducible exact ih1 _ _ _ _ _)
      | (with_reducible exact hatstandlaw3_as.mono _ _)
      | (with_reducible exact hatstandref3_Same.mono _ _ _ _)
      | (with_reducible exact LeO.refl _)
      | (with_reducible exact LeO.none _)
      | (with_reducible refine LeO.ite ?_ ?_)
      | (with_reducible refine LeO.bind ?_ (fun _ => ?_))
      | exact ih0 _ _ _ _
      | exact ih1 _ _ _ _ _
      | exact hatstandlaw3_as.mono _ _
      | exact hatstandref3_Same.mono _ _ _ _
      | exact LeO.none _
      | refine LeO.ite ?_ ?_
      | refine LeO.bind ?_ (fun _ => ?_)
set_option maxHeartbeats 8000000 in
set_option maxRecDepth 100000 in
theorem hatstandlaw3_GlyphParts.calls (k : Nat) (a0 : ByteArray) (a1 : ByteArray) (r : Bool) (w : World) (hG : GG w) (h : hatstandlaw3_GlyphParts.f k a0 a1 = some r) :
    Calls Tryd.prog 3 #[.string a0, .string a1] w fun e w' => e = .returned (.bool r) ∧ Below w.heap.size w w' := by
  have HB := Aside0.mk (Below.refl w.heap.size w)
  have H : ((hatstandlaw3_shown.f).bind fun t123 => (if t123 = true then (hatstandlaw3_GlyphParts.j0 k a0 a1 t123 (decide ((wrap64 ((a0.size : Int) + (a1.size : Int))) > 1000))) else (hatstandlaw3_GlyphParts.j0 k a0 a1 t123 true))) = some r := h
  clear h
  replace H := Option.bind_eq_some_iff.mp H
  obtain ⟨t123, A30, H⟩ := H
  replace H : (if t123 = true then (hatstandlaw3_GlyphParts.j0 k a0 a1 t123 (decide ((wrap64 ((a0.size : Int) + (a1.size : Int))) > 1000))) else (hatstandlaw3_GlyphParts.j0 k a0 a1 t123 true)) = some r := H
  have A3 := Aside0.mk A30
  clear A30
  have HC4 := Aside0.mk H
  clear H
  go_enter Tryd.func3, Tryd.ntmps3
  go_upto_region 2 with (first | ((with_reducible refine gate_callee (f := 10) rfl ?_); refine goesL_ (some 10) rfl rfl Tryd.func10 (by kernel_rfl) rfl #[] rfl (by (try simp only [List.map_toArray, List.map_cons, List.map_nil]); first | done | rfl | (simp only [List.length_drop, List.length_take]; rfl)) ?_; (with_reducible refine (hatstandlaw3_shown.calls  t123 _ ?side1 A3.out).mono ?_); (case side1 => exact GG_at hG (by repeat (first | (with_reducible first | exact HB.out | apply below_alloc | apply pw_below_drewN | apply below_drew1) | exact HB.out))); rintro e w5 ⟨rfl, hb⟩; refine ⟨_, rfl, ?_⟩; have n0_ := Aside0.mk (below_step (by repeat (first | (with_reducible first | exact HB.out | apply below_alloc | apply pw_below_drewN | apply below_drew1) | exact HB.out)) hb); clear HB; have HB := n0_; clear n0_; (try clear hb); (try clear hb2); (try clear hk); (try clear hi)))
  (try simp only [Act.put, List.setIfInBounds_toArray, List.set_cons_zero, List.set_cons_succ])
  go_cut [20] (fun v20 wc => ∃ (kq : Nat) (x20_3 : Bool), v20 = .bool x20_3 ∧ Aside0 (hatstandlaw3_GlyphParts.j0 kq a0 a1 t123 x20_3 = some r) ∧ Aside0 (kq ≤ k) ∧ Aside0 (Below w.heap.size w wc))
  case first =>
    have H := HC4.out
    clear HC4
    by_cases c6 : t123 = true
    · subst c6
      have H1 : (hatstandlaw3_GlyphParts.j0 k a0 a1 true (decide ((wrap64 ((a0.size : Int) + (a1.size : Int))) > 1000))) = some r := by rw [if_pos rfl] at H; exact H
      clear H
      have H := H1
      clear H1
      have H' := Aside0.mk H
      clear H
      go_wp2
      go_meet
      case rel => exact ⟨_, (decide ((wrap64 ((a0.size : Int) + (a1.size : Int))) > 1000)), (by first | rfl | (simp; done) | (simp [*]; done) | exact isEmpty_bne _), H', ⟨by first | omega | exact Nat.le_refl _⟩, ⟨by repeat (first | (with_reducible first | exact HB.out | apply below_alloc | apply pw_below_drewN | apply below_drew1) | exact HB.out)⟩⟩
    · replace c6 := Bool.eq_false_iff.mpr c6
      subst c6
      have H1 : (hatstandlaw3_GlyphParts.j0 k a0 a1 false true) = some r := by rw [if_neg (show ¬ (false = true) by decide)] at H; exact H
      clear H
      have H := H1
      clear H1
      have H' := Aside0.mk H
      clear H
      go_wp2
      go_meet
      case rel => exact ⟨_, (true), (by first | rfl | (simp; done) | (simp [*]; done) | exact isEmpty_bne _), H', ⟨by first | omega | exact Nat.le_refl _⟩, ⟨by repeat (first | (with_reducible first | exact HB.out | apply below_alloc | apply pw_below_drewN | apply below_drew1) | exact HB.out)⟩⟩
  case rest =>
    clear HC4
    try clear c1
    try clear p2
    try clear c3
    try clear c6
    try clear p6
    obtain ⟨kq, x20_3, rfl, HA, HJ3, HB⟩ := hcut
    cases kq with
    | zero => exact absurd HA.out (by simp [hatstandlaw3_GlyphParts.j0])
    | succ kj3 =>
      have H := HA.out
      clear HA
      simp only [hatstandlaw3_GlyphParts.j0] at H
      by_cases c7 : x20_3 = true
      · subst c7
        have H1 : (some t123) = some r := by rw [if_pos rfl] at H; exact H
        clear H
        have H := H1
        clear H1
        obtain rfl := Option.some.inj H
        go_wp2
        go_ret
        exact ⟨by first | rfl | (simp [errW_none, errW_some] <;> rfl) | (simp [*, errW_none, errW_some] <;> rfl), by repeat (first | (with_reducible first | exact HB.out | apply below_alloc | apply pw_below_drewN | apply below_drew1) | exact HB.out)⟩
      · replace c7 := Bool.eq_false_iff.mpr c7
        subst c7
        have H1 : (if a0.size + 1 ≤ 9223372036854775807 then ((glyph_Parse.f (a0 ++ (⟨#[32]⟩ : ByteArray))).bind fun t124 => ((hatstandlaw3_as.f kj3 t124).bind fun t127 => ((glyph_Parse.f a1).bind fun t130 => ((hatstandlaw3_as.f kj3 t130).bind fun t133 => (if (a0 ++ (⟨#[32]⟩ : ByteArray)).size + a1.size ≤ 9223372036854775807 then ((glyph_Parse.f ((a0 ++ (⟨#[32]⟩ : ByteArray)) ++ a1)).bind fun t136 => ((hatstandlaw3_as.f kj3 t136).bind fun t139 => (hatstandlaw3_GlyphParts.l0 kj3 a0 t127 t133 t139 0))) else (none)))))) else (none)) = some r := by rw [if_neg (show ¬ (false = true) by decide)] at H; exact H
        clear H
        have H := H1
        clear H1
        by_cases c8 : a0.size + 1 ≤ 9223372036854775807
        · rw [if_pos c8] at H
          have c8b0 := eq_true c8
          have c8b1 : decide (a0.size + 1 ≤ 9223372036854775807) = true := decide_eq_true c8
          try have c8b2 : (9223372036854775807 < a0.size + 1) = False := eq_false (Nat.not_lt.2 c8)
          replace H := Option.bind_eq_some_iff.mp H
          obtain ⟨t124, A90, H⟩ := H
          replace H : ((hatstandlaw3_as.f kj3 t124).bind fun t127 => ((glyph_Parse.f a1).bind fun t130 => ((hatstandlaw3_as.f kj3 t130).bind fun t133 => (if (a0 ++ (⟨#[32]⟩ : ByteArray)).size + a1.size ≤ 9223372036854775807 then ((glyph_Parse.f ((a0 ++ (⟨#[32]⟩ : ByteArray)) ++ a1)).bind fun t136 => ((hatstandlaw3_as.f kj3 t136).bind fun t139 => (hatstandlaw3_GlyphParts.l0 kj3 a0 t127 t133 t139 0))) else (none))))) = some r := H
          have A9 := Aside0.mk A90
          clear A90
          replace H := Option.bind_eq_some_iff.mp H
          obtain ⟨t127, A100, H⟩ := H
          replace H : ((glyph_Parse.f a1).bind fun t130 => ((hatstandlaw3_as.f kj3 t130).bind fun t133 => (if (a0 ++ (⟨#[32]⟩ : ByteArray)).size + a1.size ≤ 9223372036854775807 then ((glyph_Parse.f ((a0 ++ (⟨#[32]⟩ : ByteArray)) ++ a1)).bind fun t136 => ((hatstandlaw3_as.f kj3 t136).bind fun t139 => (hatstandlaw3_GlyphParts.l0 kj3 a0 t127 t133 t139 0))) else (none)))) = some r := H
          have A10 := Aside0.mk A100
          clear A100
          replace H := Option.bind_eq_some_iff.mp H
          obtain ⟨t130, A110, H⟩ := H
          replace H : ((hatstandlaw3_as.f kj3 t130).bind fun t133 => (if (a0 ++ (⟨#[32]⟩ : ByteArray)).size + a1.size ≤ 9223372036854775807 then ((glyph_Parse.f ((a0 ++ (⟨#[32]⟩ : ByteArray)) ++ a1)).bind fun t136 => ((hatstandlaw3_as.f kj3 t136).bind fun t139 => (hatstandlaw3_GlyphParts.l0 kj3 a0 t127 t133 t139 0))) else (none))) = some r := H
          have A11 := Aside0.mk A110
          clear A110
          replace H := Option.bind_eq_some_iff.mp H
          obtain ⟨t133, A120, H⟩ := H
          replace H : (if (a0 ++ (⟨#[32]⟩ : ByteArray)).size + a1.size ≤ 9223372036854775807 then ((glyph_Parse.f ((a0 ++ (⟨#[32]⟩ : ByteArray)) ++ a1)).bind fun t136 => ((hatstandlaw3_as.f kj3 t136).bind fun t139 => (hatstandlaw3_GlyphParts.l0 kj3 a0 t127 t133 t139 0))) else (none)) = some r := H
          have A12 := Aside0.mk A120
          clear A120
          by_cases c13 : (a0 ++ (⟨#[32]⟩ : ByteArray)).size + a1.size ≤ 9223372036854775807
          · rw [if_pos c13] at H
            have c13b0 := eq_true c13
            have c13s : a0.size + 1 + a1.size ≤ 9223372036854775807 := by have h_ := c13; simp only [ByteArray.size_append] at h_; exact h_
            have c13s0 := eq_true c13s
            have c13s1 : decide (a0.size + 1 + a1.size ≤ 9223372036854775807) = true := decide_eq_true c13s
            have c13s2 : (9223372036854775807 < a0.size + 1 + a1.size) = False := eq_false (Nat.not_lt.2 c13s)
            clear c13s
            have c13b1 : decide ((a0 ++ (⟨#[32]⟩ : ByteArray)).size + a1.size ≤ 9223372036854775807) = true := decide_eq_true c13
            try have c13b2 : (9223372036854775807 < (a0 ++ (⟨#[32]⟩ : ByteArray)).size + a1.size) = False := eq_false (Nat.not_lt.2 c13)
            replace H := Option.bind_eq_some_iff.mp H
            obtain ⟨t136, A140, H⟩ := H
            replace H : ((hatstandlaw3_as.f kj3 t136).bind fun t139 => (hatstandlaw3_GlyphParts.l0 kj3 a0 t127 t133 t139 0)) = some r := H
            have A14 := Aside0.mk A140
            clear A140
            replace H := Option.bind_eq_some_iff.mp H
            obtain ⟨t139, A150, H⟩ := H
            replace H : (hatstandlaw3_GlyphParts.l0 kj3 a0 t127 t133 t139 0) = some r := H
            have A15 := Aside0.mk A150
            clear A150
            have H' := Aside0.mk H
            clear H
            go_wp2_with (first | ((with_reducible refine gate_callee (f := 12) rfl ?_); refine goesL_ (some 24) rfl rfl Tryd.func12 (by kernel_rfl) rfl #[.string (a0 ++ (⟨#[32]⟩ : ByteArray))] rfl (by (try simp only [List.map_toArray, List.map_cons, List.map_nil]); first | done | rfl | (simp only [List.length_drop, List.length_take]; rfl)) ?_; (with_reducible refine (glyph_Parse.calls (a0 ++ (⟨#[32]⟩ : ByteArray)) t124 _ ?side1 A9.out).mono ?_); (case side1 => exact GG_at hG (by repeat (first | (with_reducible first | exact HB.out | apply below_alloc | apply pw_below_drewN | apply below_drew1) | exact HB.out))); rintro e w16 ⟨v125, rfl, ho0, hb⟩; refine ⟨_, rfl, ?_⟩; have n0_ := Aside0.mk (Kd.N_lower (Kd.N_mono (ok' := fun k_ => True) ho0 (fun k_ hk_ => trivial)) (below_size (by repeat (first | (with_reducible first | exact HB.out | apply below_alloc | apply pw_below_drewN | apply below_drew1) | exact HB.out)))); have n1_ := Aside0.mk (below_step (by repeat (first | (with_reducible first | exact HB.out | apply below_alloc | apply pw_below_drewN | apply below_drew1) | exact HB.out)) hb); clear HB; have HO126 := n0_; have HB := n1_; clear n0_ n1_; (try clear hb); (try clear hb2); (try clear hk); (try clear hi); (try clear ho0); obtain ⟨Ao17, co17, eo17⟩ := Kd.N_slice HO126.out; subst eo17) | ((with_reducible refine gate_callee (f := 11) rfl ?_); refine goesL_ (some 25) rfl rfl Tryd.func11 (by kernel_rfl) rfl #[.slice Ao17 t124.length co17] rfl (by (try simp only [List.map_toArray, List.map_cons, List.map_nil]); first | done | rfl | (simp only [List.length_drop, List.length_take]; rfl)) ?_; (with_reducible refine (hatstandlaw3_as.calls kj3 (fun k_ => True) _ _ t124 t127 _ ?side1 A10.out).mono ?_); (case side1 => exact Kd.N_V (HO126.out)); rintro e w18 ⟨v128, rfl, ho0, hb⟩; refine ⟨_, rfl, ?_⟩; have n0_ := Aside0.mk (Kd.N_elder' (by (with_reducible repeat (first | apply Kd.N_alloc | apply Kd.N_drewN | apply Kd.N_drew)); exact HO126.out) (Kd.N_base ho0) hb); have n1_ := Aside0.mk (Kd.N_lower (Kd.N_mono (ok' := fun k_ => True) ho0 (fun k_ hk_ => trivial)) (below_size (by repeat (first | (with_reducible first | exact HB.out | apply below_alloc | apply pw_below_drewN | apply below_drew1) | exact HB.out)))); have n2_ := Aside0.mk (below_step (by repeat (first | (with_reducible first | exact HB.out | apply below_alloc | apply pw_below_drewN | apply below_drew1) | exact HB.out)) hb); clear HO126; clear HB; have HO126 := n0_; have HO129 := n1_; have HB := n2_; clear n0_ n1_ n2_; (try clear hb); (try clear hb2); (try clear hk); (try clear hi); (try clear ho0)) | ((with_reducible refine gate_callee (f := 12) rfl ?_); refine goesL_ (some 27) rfl rfl Tryd.func12 (by kernel_rfl) rfl #[.string a1] rfl (by (try simp only [List.map_toArray, List.map_cons, List.map_nil]); first | done | rfl | (simp only [List.length_drop, List.length_take]; rfl)) ?_; (with_reducible refine (glyph_Parse.calls a1 t130 _ ?side1 A11.out).mono ?_); (case side1 => exact GG_at hG (by repeat (first | (with_reducible first | exact HB.out | apply below_alloc | apply pw_below_drewN | apply below_drew1) | exact HB.out))); rintro e w19 ⟨v131, rfl, ho0, hb⟩; refine ⟨_, rfl, ?_⟩; have n0_ := Aside0.mk (Kd.N_elder' (by (with_reducible repeat (first | apply Kd.N_alloc | apply Kd.N_drewN | apply Kd.N_drew)); exact HO126.out) (Kd.N_base ho0) hb); have n1_ := Aside0.mk (Kd.N_elder' (by (with_reducible repeat (first | apply Kd.N_alloc | apply Kd.N_drewN | apply Kd.N_drew)); exact HO129.out) (Kd.N_base ho0) hb); have n2_ := Aside0.mk (Kd.N_lower (Kd.N_mono (ok' := fun k_ => some k_ ≠ (.slice Ao17 t124.length co17 : Value).ownBlock ∧ some k_ ≠ (v128 : Value).ownBlock) ho0 (fun k_ hk_ => ⟨(Kd.fresh' (Kd.N_lt (by (with_reducible repeat (first | apply Kd.N_alloc | apply Kd.N_drewN | apply Kd.N_drew)); exact HO126.out)) k_ hk_), (Kd.fresh' (Kd.N_lt (by (with_reducible repeat (first | apply Kd.N_alloc | apply Kd.N_drewN | apply Kd.N_drew)); exact HO129.out)) k_ hk_)⟩)) (below_size (by repeat (first | (with_reducible first | exact HB.out | apply below_alloc | apply pw_below_drewN | apply below_drew1) | exact HB.out)))); have n3_ := Aside0.mk (below_step (by repeat (first | (with_reducible first | exact HB.out | apply below_alloc | apply pw_below_drewN | apply below_drew1) | exact HB.out)) hb); clear HO126; clear HO129; clear HB; have HO126 := n0_; have HO129 := n1_; have HO132 := n2_; have HB := n3_; clear n0_ n1_ n2_ n3_; (try clear hb); (try clear hb2); (try clear hk); (try clear hi); (try clear ho0); obtain ⟨Ao20, co20, eo20⟩ := Kd.N_slice HO132.out; subst eo20) | ((with_reducible refine gate_callee (f := 11) rfl ?_); refine goesL_ (some 28) rfl rfl Tryd.func11 (by kernel_rfl) rfl #[.slice Ao20 t130.length co20] rfl (by (try simp only [List.map_toArray, List.map_cons, List.map_nil]); first | done | rfl | (simp only [List.length_drop, List.length_take]; rfl)) ?_; (with_reducible refine (hatstandlaw3_as.calls kj3 (fun k_ => (some k_ ≠ (.slice Ao17 t124.length co17 : Value).ownBlock ∧ some k_ ≠ (v128 : Value).ownBlock)) _ _ t130 t133 _ ?side1 A12.out).mono ?_); (case side1 => exact Kd.N_V (HO132.out)); rintro e w21 ⟨v134, rfl, ho0, hb⟩; refine ⟨_, rfl, ?_⟩; have n0_ := Aside0.mk (Kd.N_elder' (by (with_reducible repeat (first | apply Kd.N_alloc | apply Kd.N_drewN | apply Kd.N_drew)); exact HO126.out) (Kd.N_base ho0) hb); have n1_ := Aside0.mk (Kd.N_elder' (by (with_reducible repeat (first | apply Kd.N_alloc | apply Kd.N_drewN | apply Kd.N_drew)); exact HO129.out) (Kd.N_base ho0) hb); have n2_ := Aside0.mk (Kd.N_elder' (by (with_reducible repeat (first | apply Kd.N_alloc | apply Kd.N_drewN | apply Kd.N_drew)); exact HO132.out) (Kd.N_base ho0) hb); have n3_ := Aside0.mk (Kd.N_lower (Kd.N_mono (ok' := fun k_ => some k_ ≠ (.slice Ao17 t124.length co17 : Value).ownBlock ∧ some k_ ≠ (v128 : Value).ownBlock) ho0 (fun k_ hk_ => ⟨Or.elim hk_ (fun hs_ => hs_.1) (fun hn_ => (Kd.fresh' (Kd.N_lt (by (with_reducible repeat (first | apply Kd.N_alloc | apply Kd.N_drewN | apply Kd.N_drew)); exact HO126.out)) k_ hn_)), Or.elim hk_ (fun hs_ => hs_.2) (fun hn_ => (Kd.fresh' (Kd.N_lt (by (with_reducible repeat (first | apply Kd.N_alloc | apply Kd.N_drewN | apply Kd.N_drew)); exact HO129.out)) k_ hn_))⟩)) (below_size (by repeat (first | (with_reducible first | exact HB.out | apply below_alloc | apply pw_below_drewN | apply below_drew1) | exact HB.out)))); have n4_ := Aside0.mk (below_step (by repeat (first | (with_reducible first | exact HB.out | apply below_alloc | apply pw_below_drewN | apply below_drew1) | exact HB.out)) hb); clear HO126; clear HO129; clear HO132; clear HB; have HO126 := n0_; have HO129 := n1_; have HO132 := n2_; have HO135 := n3_; have HB := n4_; clear n0_ n1_ n2_ n3_ n4_; (try clear hb); (try clear hb2); (try clear hk); (try clear hi); (try clear ho0)) | ((with_reducible refine gate_callee (f := 12) rfl ?_); refine goesL_ (some 33) rfl rfl Tryd.func12 (by kernel_rfl) rfl #[.string ((a0 ++ (⟨#[32]⟩ : ByteArray)) ++ a1)] rfl (by (try simp only [List.map_toArray, List.map_cons, List.map_nil]); first | done | rfl | (simp only [List.length_drop, List.length_take]; rfl)) ?_; (with_reducible refine (glyph_Parse.calls ((a0 ++ (⟨#[32]⟩ : ByteArray)) ++ a1) t136 _ ?side1 A14.out).mono ?_); (case side1 => exact GG_at hG (by repeat (first | (with_reducible first | exact HB.out | apply below_alloc | apply pw_below_drewN | apply below_drew1) | exact HB.out))); rintro e w22 ⟨v137, rfl, ho0, hb⟩; refine ⟨_, rfl, ?_⟩; have n0_ := Aside0.mk (Kd.N_elder' (by (with_reducible repeat (first | apply Kd.N_alloc | apply Kd.N_drewN | apply Kd.N_drew)); exact HO126.out) (Kd.N_base ho0) hb); have n1_ := Aside0.mk (Kd.N_elder' (by (with_reducible repeat (first | apply Kd.N_alloc | apply Kd.N_drewN | apply Kd.N_drew)); exact HO129.out) (Kd.N_base ho0) hb); have n2_ := Aside0.mk (Kd.N_elder' (by (with_reducible repeat (first | apply Kd.N_alloc | apply Kd.N_drewN | apply Kd.N_drew)); exact HO132.out) (Kd.N_base ho0) hb); have n3_ := Aside0.mk (Kd.N_elder' (by (with_reducible repeat (first | apply Kd.N_alloc | apply Kd.N_drewN | apply Kd.N_drew)); exact HO135.out) (Kd.N_base ho0) hb); have n4_ := Aside0.mk (Kd.N_lower (Kd.N_mono (ok' := fun k_ => some k_ ≠ (.slice Ao17 t124.length co17 : Value).ownBlock ∧ some k_ ≠ (v128 : Value).ownBlock ∧ some k_ ≠ (.slice Ao20 t130.length co20 : Value).ownBlock ∧ some k_ ≠ (v134 : Value).ownBlock) ho0 (fun k_ hk_ => ⟨(Kd.fresh' (Kd.N_lt (by (with_reducible repeat (first | apply Kd.N_alloc | apply Kd.N_drewN | apply Kd.N_drew)); exact HO126.out)) k_ hk_), (Kd.fresh' (Kd.N_lt (by (with_reducible repeat (first | apply Kd.N_alloc | apply Kd.N_drewN | apply Kd.N_drew)); exact HO129.out)) k_ hk_), (Kd.fresh' (Kd.N_lt (by (with_reducible repeat (first | apply Kd.N_alloc | apply Kd.N_drewN | apply Kd.N_drew)); exact HO132.out)) k_ hk_), (Kd.fresh' (Kd.N_lt (by (with_reducible repeat (first | apply Kd.N_alloc | apply Kd.N_drewN | apply Kd.N_drew)); exact HO135.out)) k_ hk_)⟩)) (below_size (by repeat (first | (with_reducible first | exact HB.out | apply below_alloc | apply pw_below_drewN | apply below_drew1) | exact HB.out)))); have n5_ := Aside0.mk (below_step (by repeat (first | (with_reducible first | exact HB.out | apply below_alloc | apply pw_below_drewN | apply below_drew1) | exact HB.out)) hb); clear HO126; clear HO129; clear HO132; clear HO135; clear HB; have HO126 := n0_; have HO129 := n1_; have HO132 := n2_; have HO135 := n3_; have HO138 := n4_; have HB := n5_; clear n0_ n1_ n2_ n3_ n4_ n5_; (try clear hb); (try clear hb2); (try clear hk); (try clear hi); (try clear ho0); obtain ⟨Ao23, co23, eo23⟩ := Kd.N_slice HO138.out; subst eo23) | ((with_reducible refine gate_callee (f := 11) rfl ?_); refine goesL_ (some 34) rfl rfl Tryd.func11 (by kernel_rfl) rfl #[.slice Ao23 t136.length co23] rfl (by (try simp only [List.map_toArray, List.map_cons, List.map_nil]); first | done | rfl | (simp only [List.length_drop, List.length_take]; rfl)) ?_; (with_reducible refine (hatstandlaw3_as.calls kj3 (fun k_ => (some k_ ≠ (.slice Ao17 t124.length co17 : Value).ownBlock ∧ (some k_ ≠ (v128 : Value).ownBlock ∧ (some k_ ≠ (.slice Ao20 t130.length co20 : Value).ownBlock ∧ some k_ ≠ (v134 : Value).ownBlock)))) _ _ t136 t139 _ ?side1 A15.out).mono ?_); (case side1 => exact Kd.N_V (HO138.out)); rintro e w24 ⟨v140, rfl, ho0, hb⟩; refine ⟨_, rfl, ?_⟩; have n0_ := Aside0.mk (Kd.N_elder' (by (with_reducible repeat (first | apply Kd.N_alloc | apply Kd.N_drewN | apply Kd.N_drew)); exact HO126.out) (Kd.N_base ho0) hb); have n1_ := Aside0.mk (Kd.N_elder' (by (with_reducible repeat (first | apply Kd.N_alloc | apply Kd.N_drewN | apply Kd.N_drew)); exact HO129.out) (Kd.N_base ho0) hb); have n2_ := Aside0.mk (Kd.N_elder' (by (with_reducible repeat (first | apply Kd.N_alloc | apply Kd.N_drewN | apply Kd.N_drew)); exact HO132.out) (Kd.N_base ho0) hb); have n3_ := Aside0.mk (Kd.N_elder' (by (with_reducible repeat (first | apply Kd.N_alloc | apply Kd.N_drewN | apply Kd.N_drew)); exact HO135.out) (Kd.N_base ho0) hb); have n4_ := Aside0.mk (Kd.N_elder' (by (with_reducible repeat (first | apply Kd.N_alloc | apply Kd.N_drewN | apply Kd.N_drew)); exact HO138.out) (Kd.N_base ho0) hb); have n5_ := Aside0.mk (Kd.N_lower (Kd.N_mono (ok' := fun k_ => some k_ ≠ (.slice Ao17 t124.length co17 : Value).ownBlock ∧ some k_ ≠ (v128 : Value).ownBlock ∧ some k_ ≠ (.slice Ao20 t130.length co20 : Value).ownBlock ∧ some k_ ≠ (v134 : Value).ownBlock) ho0 (fun k_ hk_ => ⟨Or.elim hk_ (fun hs_ => hs_.1) (fun hn_ => (Kd.fresh' (Kd.N_lt (by (with_reducible repeat (first | apply Kd.N_alloc | apply Kd.N_drewN | apply Kd.N_drew)); exact HO126.out)) k_ hn_)), Or.elim hk_ (fun hs_ => hs_.2.1) (fun hn_ => (Kd.fresh' (Kd.N_lt (by (with_reducible repeat (first | apply Kd.N_alloc | apply Kd.N_drewN | apply Kd.N_drew)); exact HO129.out)) k_ hn_)), Or.elim hk_ (fun hs_ => hs_.2.2.1) (fun hn_ => (Kd.fresh' (Kd.N_lt (by (with_reducible repeat (first | apply Kd.N_alloc | apply Kd.N_drewN | apply Kd.N_drew)); exact HO132.out)) k_ hn_)), Or.elim hk_ (fun hs_ => hs_.2.2.2) (fun hn_ => (Kd.fresh' (Kd.N_lt (by (with_reducible repeat (first | apply Kd.N_alloc | apply Kd.N_drewN | apply Kd.N_drew)); exact HO135.out)) k_ hn_))⟩)) (below_size (by repeat (first | (with_reducible first | exact HB.out | apply below_alloc | apply pw_below_drewN | apply below_drew1) | exact HB.out)))); have n6_ := Aside0.mk (below_step (by repeat (first | (with_reducible first | exact HB.out | apply below_alloc | apply pw_below_drewN | apply below_drew1) | exact HB.out)) hb); clear HO126; clear HO129; clear HO132; clear HO135; clear HO138; clear HB; have HO126 := n0_; have HO129 := n1_; have HO132 := n2_; have HO135 := n3_; have HO138 := n4_; have HO141 := n5_; have HB := n6_; clear n0_ n1_ n2_ n3_ n4_ n5_ n6_; (try clear hb); (try clear hb2); (try clear hk); (try clear hi); (try clear ho0)))
            go_loopg [9] kj3 (fun kq v9 w' => ∃ (x7_2 : List (S29)) (x9_2 : Int), v9 = .int .i64 x9_2 ∧ Aside0 (hatstandlaw3_GlyphParts.l0 kq a0 t127 x7_2 t139 x9_2 = some r) ∧ Aside0 (kq ≤ kj3) ∧ Aside0 (Kd.N k29 29 w' w.heap.size (fun k_ => some k_ ≠ (v134 : Value).ownBlock ∧ some k_ ≠ (v140 : Value).ownBlock) v128 t127) ∧ Aside0 (Kd.N k29 29 w' w.heap.size (fun k_ => some k_ ≠ (v128 : Value).ownBlock ∧ some k_ ≠ (v140 : Value).ownBlock) v134 x7_2) ∧ Aside0 (Kd.N k29 29 w' w.heap.size (fun k_ => some k_ ≠ (v128 : Value).ownBlock ∧ some k_ ≠ (v134 : Value).ownBlock) v140 t139) ∧ Aside0 (Below w.heap.size w w'))
            case atStart => exact ⟨(t133), (0), (by first | rfl | (simp; done) | (simp [*]; done) | exact isEmpty_bne _), H', ⟨Nat.le_refl _⟩, ⟨by (with_reducible repeat (first | apply Kd.N_alloc | apply Kd.N_drewN | apply Kd.N_drew)); exact Kd.N_mono HO129.out (fun _ hk => ⟨hk.1.1.2, hk.2⟩)⟩, ⟨by (with_reducible repeat (first | apply Kd.N_alloc | apply Kd.N_drewN | apply Kd.N_drew)); exact Kd.N_mono HO135.out (fun _ hk => ⟨hk.1.1.2, hk.2⟩)⟩, ⟨by (with_reducible repeat (first | apply Kd.N_alloc | apply Kd.N_drewN | apply Kd.N_drew)); exact Kd.N_mono HO141.out (fun _ hk => ⟨hk.2.1, hk.2.2.2⟩)⟩, ⟨by repeat (first | (with_reducible first | exact HB.out | apply below_alloc | apply pw_below_drewN | apply below_drew1) | exact HB.out)⟩⟩
            case round =>
              clear H'
              try clear c1
              try clear p2
              try clear c3
              try clear c6
              try clear p6
              try clear c7
              try clear c8
              try clear c8b0
              try clear c8b1
              try clear c8b2
              try clear c10
              try clear c11
              try clear c12
              try clear c13
              try clear c13b0
              try clear c13b1
              try clear c13b2
              try clear p2
              try clear p6
              obtain ⟨x7_2, x9_2, rfl, HA, HK2, HO_6, HO_7, HO_8, HB⟩ := hrel
              cases gk with
              | zero => exact absurd HA.out (by simp [hatstandlaw3_GlyphParts.l0])
              | succ k2 =>
                have H := HA.out
                clear HA
                simp only [hatstandlaw3_GlyphParts.l0] at H
                by_cases c25 : x9_2 < (x7_2.length : Int)
                · rw [if_pos c25] at H
                  have c25b0 : decide (x9_2 < (x7_2.length : Int)) = true := decide_eq_true c25
                  clear c25
                  by_cases c26 : 0 ≤ x9_2
                  · rw [if_pos c26] at H
                    have c26b0 : decide (0 ≤ x9_2) = true := decide_eq_true c26
                    clear c26
                    obtain ⟨y143, hy143⟩ : ∃ y_ : List (S29), y_ = (x7_2.set (x9_2 : Int).toNat (⟨(rd_T29 x7_2 x9_2).f0, (rd_T29 x7_2 x9_2).f1, (rd_T29 x7_2 x9_2).f2, wrap64 ((wrap64 (((rd_T29 x7_2 x9_2).f3) + (a0.size : Int))) + 1)⟩ : S29)) := ⟨_, rfl⟩
                    replace H : (hatstandlaw3_GlyphParts.l0 k2 a0 t127 y143 t139 (wrap64 (x9_2 + 1))) = some r := by first | (rw [hy143]; with_reducible exact H) | (have H2_ := (Option.bind_some _ _).symm.trans H; rw [hy143]; with_reducible exact H2_) | (have H2_ := (Option.bind_some _ _).symm.trans H; with_reducible exact H2_) | with_reducible exact H | (rw [hy143]; exact H) | exact H
                    have Ny143 := Aside0.mk hy143
                    clear hy143
                    have H' := Aside0.mk H
                    clear H
                    obtain ⟨Ao28, co28, eo28⟩ := Kd.N_slice HO_7.out
                    subst eo28
                    have p142 : 0 ≤ (x9_2 : Int) := of_decide_eq_true (by first | (with_reducible assumption) | assumption)
                    have q142 : x9_2 < (x7_2.length : Int) := of_decide_eq_true (by first | (with_reducible assumption) | assumption)
                    obtain ⟨ad142, A142_1, c142_1, e142, hx142_0, hx142_1, hx142_2, hx142_3, hl142_1, hi142_1⟩ := at_T29 (Kd.N_reads' HO_7.out).2.2 x9_2 p142 q142
                    cases e142
                    obtain ⟨ce142, hce142, hMe142, hcc142⟩ := Kd.N_get HO_7.out z29 x9_2 p142 (by first | exact q142 | exact of_decide_eq_true (by first | (with_reducible assumption) | assumption) | (have e_ := (Kd.N_reads' HO_7.out).1; omega))
                    obtain ⟨ua142_1, uc142_1, rfl, ul142_1, ge142_1⟩ := k29_openF hMe142
                    have hv142_1 := hcc142 1 _ rfl
                    rw [add_field _ _ 1 (by omega)] at hv142_1
                    replace hv142_1 := Option.some.inj (hv142_1.symm.trans hx142_1)
                    injection hv142_1 with hva_ hvn_ hvc_
                    rw [hva_] at ge142_1
                    rw [hvc_] at ul142_1
                    have HL142_1 := Aside0.mk (show Kd.V (Kd.int .u64) 51 _ w.heap.size _ _ ((rd_T29 x7_2 x9_2).f1) from Kd.V_mk ul142_1 ge142_1)
                    clear hva_ hvn_ hvc_ ge142_1 ul142_1
                    clear hcc142 hce142
                    have HR142_1 := Aside0.mk hi142_1
                    have HC142_1 := Aside0.mk hl142_1
                    clear hi142_1 hl142_1
                    replace p142 := eq_true p142
                    replace q142 := eq_true q142
                    have p27 : 0 ≤ (x9_2 : Int) := of_decide_eq_true (by first | (with_reducible assumption) | assumption)
                    have q27 : (x9_2 : Int) < ((x7_2.length : Int) : Int) := of_decide_eq_true (by first | (with_reducible assumption) | assumption)
                    obtain ⟨go27, co27, eo27, gb27, gl27, cl27, HG27⟩ := Kd.N_form HO_7.out (by omega)
                    (first | cases eo27 | (injection eo27 with ea_ en_ ec_; (first | subst ea_ | (injection ea_ with ea_; subst ea_)); subst ec_; clear en_))
                    have GB27 := Aside0.mk gb27
                    have GG27 := Aside0.mk HG27
                    clear gb27 gl27 HG27
                    (first | simp only [add_plain] at hx142_0 | skip)
                    (first | simp only [add_plain] at hx142_1 | skip)
                    (first | simp only [add_plain] at hx142_2 | skip)
                    (first | simp only [add_plain] at hx142_3 | skip)
                    obtain ⟨ce27, hcl27, hM27, hcc27, hfr27⟩ := Kd.N_elem HO_7.out z29 (x9_2 : Int) p27 q27
                    obtain ⟨ua27_1, uc27_1, rfl, ul27_1, ge27_1⟩ := k29_openF hM27
                    have hx27_0 : wr.cell? ⟨go27, (x9_2 : Int).toNat * 4, none⟩ = some (.int .i64 ((rd_T29 x7_2 x9_2).f0)) := hcc27 0 _ rfl
                    have hx27_1 : wr.cell? ⟨go27, (x9_2 : Int).toNat * 4 + 1, none⟩ = some (.slice ua27_1 ((rd_T29 x7_2 x9_2).f1).length uc27_1) := hcc27 1 _ rfl
                    have hx27_2 : wr.cell? ⟨go27, (x9_2 : Int).toNat * 4 + 2, none⟩ = some (.bool ((rd_T29 x7_2 x9_2).f2)) := hcc27 2 _ rfl
                    have hx27_3 : wr.cell? ⟨go27, (x9_2 : Int).toNat * 4 + 3, none⟩ = some (.int .i64 ((rd_T29 x7_2 x9_2).f3)) := hcc27 3 _ rfl
                    have hf27_0 : wr.frozen? ⟨go27, (x9_2 : Int).toNat * 4, none⟩ = false := hfr27 0
                    have hf27_1 : wr.frozen? ⟨go27, (x9_2 : Int).toNat * 4 + 1, none⟩ = false := hfr27 1
                    have hf27_2 : wr.frozen? ⟨go27, (x9_2 : Int).toNat * 4 + 2, none⟩ = false := hfr27 2
                    have hf27_3 : wr.frozen? ⟨go27, (x9_2 : Int).toNat * 4 + 3, none⟩ = false := hfr27 3
                    clear hcl27 hcc27 hfr27 hM27
                    replace p27 := eq_true p27
                    replace q27 := eq_true q27
                    have HX29 := Aside0.mk (show Kd.N k29 29 wr w.heap.size (fun k_ => some k_ ≠ (v128 : Value).ownBlock ∧ some k_ ≠ (v140 : Value).ownBlock) (.slice (some ⟨go27, 0, none⟩) x7_2.length co28) x7_2 from (by (with_reducible repeat (first | apply Kd.N_alloc | apply Kd.N_drewN | apply Kd.N_drew)); exact HO_7.out))
                    obtain ⟨ce29, hcl29, hM29, hcc29, hfr29⟩ := Kd.N_elem HX29.out z29 (x9_2 : Int) (of_decide_eq_true (by first | (with_reducible assumption) | assumption)) (by have h_ : (x9_2 : Int) < ((x7_2.length : Int) : Int) := of_decide_eq_true (by first | (with_reducible assumption) | assumption); first | exact h_ | (have e_ := (Kd.N_reads' HO_7.out).1; omega) | simpa using h_)
                    obtain ⟨ua29_1, uc29_1, rfl, ul29_1, ge29_1⟩ := k29_openF hM29
                    have HP29 := Kd.N_seg HX29.out (x9_2 : Int) (of_decide_eq_true (by first | (with_reducible assumption) | assumption)) (by have h_ : (x9_2 : Int) < ((x7_2.length : Int) : Int) := of_decide_eq_true (by first | (with_reducible assumption) | assumption); first | exact h_ | (have e_ := (Kd.N_reads' HO_7.out).1; omega) | simpa using h_) (seg := [.int .i64 (wrap64 ((wrap64 (((rd_T29 x7_2 x9_2).f3) + (a0.size : Int))) + 1))]) (j := 3) hcl29 hcc29 (show 4 ≤ 4 from by decide) (x' := (⟨(rd_T29 x7_2 x9_2).f0, (rd_T29 x7_2 x9_2).f1, (rd_T29 x7_2 x9_2).f2, wrap64 ((wrap64 (((rd_T29 x7_2 x9_2).f3) + (a0.size : Int))) + 1)⟩ : S29)) (k29_mkF _ _ (⟨(rd_T29 x7_2 x9_2).f0, (rd_T29 x7_2 x9_2).f1, (rd_T29 x7_2 x9_2).f2, wrap64 ((wrap64 (((rd_T29 x7_2 x9_2).f3) + (a0.size : Int))) + 1)⟩ : S29) ul29_1 ge29_1) (fun _ hk => hk)
                    have hx29_3 := hcc29 3 _ rfl
                    (try simp only [show (k29).sz = 4 from rfl, Nat.mul_one, Nat.add_zero] at hx29_3)
                    have hf29_3 := hfr29 3
                    (try simp only [show (k29).sz = 4 from rfl, Nat.mul_one, Nat.add_zero] at hf29_3)
                    clear hcl29 hcc29 hfr29 hM29
                    go_wp2_with (first | ((with_reducible refine gate_store (t := 3) (p := 53) rfl ?_); refine store_event (t := 3) (p := 53) (v := ?vo_w30) (w1 := (wr.setCell ⟨go27, (x9_2 : Int).toNat * 4 + 3, none⟩ (.int .i64 (wrap64 ((wrap64 (((rd_T29 x7_2 x9_2).f3) + (a0.size : Int))) + 1))))) ?hg ?ho ?hn ?hr ?_; (case ho => rfl); (case hg => rfl); (case hn => rfl); (case hr => first | (go_simp; done) | (go_simp; rfl)); intro w30 hw; have hg : wr.grownBy w30 (some go27) := (by rw [hw]; exact HP29.2); have hp_ : Kd.N k29 29 w30 w.heap.size (fun k_ => some k_ ≠ (v128 : Value).ownBlock ∧ some k_ ≠ (v140 : Value).ownBlock) (.slice (some ⟨go27, 0, none⟩) x7_2.length co28) y143 := (by rw [hw, Ny143.out]; exact HP29.1); clear HP29; have n0_ := Aside0.mk (Kd.N_afterv (v := (.slice (some ⟨go27, 0, none⟩) x7_2.length co28)) (v1 := (.slice (some ⟨go27, 0, none⟩) x7_2.length co28)) (ok := (fun k_ => some k_ ≠ (v140 : Value).ownBlock)) (by (with_reducible repeat (first | apply Kd.N_alloc | apply Kd.N_drewN | apply Kd.N_drew)); exact Kd.N_mono HO_6.out (fun _ hk => ⟨hk.2, hk.1⟩)) hg (.inl rfl)); have n1_ := Aside0.mk (hp_); have n2_ := Aside0.mk (Kd.N_afterv (v := (.slice (some ⟨go27, 0, none⟩) x7_2.length co28)) (v1 := (.slice (some ⟨go27, 0, none⟩) x7_2.length co28)) (ok := (fun k_ => some k_ ≠ (v128 : Value).ownBlock)) (by (with_reducible repeat (first | apply Kd.N_alloc | apply Kd.N_drewN | apply Kd.N_drew)); exact HO_8.out) hg (.inl rfl)); have n3_ := Aside0.mk (Kd.V_afterv (v := (.slice (some ⟨go27, 0, none⟩) x7_2.length co28)) (v1 := (.slice (some ⟨go27, 0, none⟩) x7_2.length co28)) (ok := (fun k_ => some k_ ≠ (v128 : Value).ownBlock ∧ some k_ ≠ (v140 : Value).ownBlock)) (by (with_reducible repeat (first | apply Kd.V_alloc | apply Kd.V_drewN | apply Kd.V_drew)); exact HL142_1.out) hg (.inl rfl)); have n4_ := Aside0.mk ((by rw [hw]; exact below_set (HB.out) GB27.out : Below w.heap.size w w30)); clear HO_6; clear HO_7; clear HO_8; clear HL142_1; clear HB; have HO_6 := n0_; have HO_7 := n1_; have HO_8 := n2_; have HL142_1 := n3_; have HB := n4_; clear n0_ n1_ n2_ n3_ n4_; clear hg hw hp_))
                    go_roundg k2
                    case measure => have := HJ3.out; have := HK2.out; omega
                    case rel => exact ⟨(y143), (wrap64 (x9_2 + 1)), (by first | rfl | (simp; done) | (simp [*]; done) | exact isEmpty_bne _), H', ⟨by have := HJ3.out; have := HK2.out; omega⟩, ⟨by (with_reducible repeat (first | apply Kd.N_alloc | apply Kd.N_drewN | apply Kd.N_drew)); exact Kd.N_mono HO_6.out (fun _ hk => ⟨hk.2, hk.1⟩)⟩, ⟨by (with_reducible repeat (first | apply Kd.N_alloc | apply Kd.N_drewN | apply Kd.N_drew)); exact HO_7.out⟩, ⟨by (with_reducible repeat (first | apply Kd.N_alloc | apply Kd.N_drewN | apply Kd.N_drew)); exact HO_8.out⟩, ⟨by repeat (first | (with_reducible first | exact HB.out | apply below_alloc | apply pw_below_drewN | apply below_drew1) | exact HB.out)⟩⟩
                  · rw [if_neg c26] at H
                    exact absurd H (by simp)
                · rw [if_neg c25] at H
                  have c25b0 : decide (x9_2 < (x7_2.length : Int)) = false := decide_eq_false c25
                  clear c25
                  obtain ⟨y144, hy144⟩ : ∃ y_ : List (S29), y_ = (([] : List (S29))) := ⟨_, rfl⟩
                  replace H : (if y144.length + t127.length < 2932031007402 then ((some (y144 ++ t127 : List (S29))).bind fun y147 => (if y147.length + x7_2.length < 2932031007402 then ((hatstandref3_Same.f k2 t139 (y147 ++ x7_2) true).bind fun t153 => (if t153 = true then ((glyph_Parse.f a0).bind fun t154 => ((hatstandlaw3_as.f k2 t154).bind fun t157 => ((hatstandref3_Same.f k2 t127 t157 true).bind fun t160 => (some t160)))) else (some false))) else (none))) else (none)) = some r := by first | (rw [hy144]; with_reducible exact H) | (have H2_ := (Option.bind_some _ _).symm.trans H; rw [hy144]; with_reducible exact H2_) | (have H2_ := (Option.bind_some _ _).symm.trans H; with_reducible exact H2_) | with_reducible exact H | (rw [hy144]; exact H) | exact H
                  have Ny144 := Aside0.mk hy144
                  clear hy144
                  by_cases c31 : y144.length + t127.length < 2932031007402
                  · rw [if_pos c31] at H
                    have LMc31 := Aside0.mk c31
                    clear c31
                    obtain ⟨y147, hy147⟩ : ∃ y_ : List (S29), y_ = (y144 ++ t127) := ⟨_, rfl⟩
                    replace H : (if y147.length + x7_2.length < 2932031007402 then ((hatstandref3_Same.f k2 t139 (y147 ++ x7_2) true).bind fun t153 => (if t153 = true then ((glyph_Parse.f a0).bind fun t154 => ((hatstandlaw3_as.f k2 t154).bind fun t157 => ((hatstandref3_Same.f k2 t127 t157 true).bind fun t160 => (some t160)))) else (some false))) else (none)) = some r := by first | (rw [hy147]; with_reducible exact H) | (have H2_ := (Option.bind_some _ _).symm.trans H; rw [hy147]; with_reducible exact H2_) | (have H2_ := (Option.bind_some _ _).symm.trans H; with_reducible exact H2_) | with_reducible exact H | (rw [hy147]; exact H) | exact H
                    have Ny147 := Aside0.mk hy147
                    clear hy147
                    by_cases c32 : y147.length + x7_2.length < 2932031007402
                    · rw [if_pos c32] at H
                      have LMc32 := Aside0.mk c32
                      clear c32
                      obtain ⟨y150, hy150⟩ : ∃ y_ : List (S29), y_ = (y147 ++ x7_2) := ⟨_, rfl⟩
                      replace H : ((hatstandref3_Same.f k2 t139 y150 true).bind fun t153 => (if t153 = true then ((glyph_Parse.f a0).bind fun t154 => ((hatstandlaw3_as.f k2 t154).bind fun t157 => ((hatstandref3_Same.f k2 t127 t157 true).bind fun t160 => (some t160)))) else (some false))) = some r := by first | (rw [hy150]; with_reducible exact H) | (have H2_ := (Option.bind_some _ _).symm.trans H; rw [hy150]; with_reducible exact H2_) | (have H2_ := (Option.bind_some _ _).symm.trans H; with_reducible exact H2_) | with_reducible exact H | (rw [hy150]; exact H) | exact H
                      have Ny150 := Aside0.mk hy150
                      clear hy150
                      replace H := Option.bind_eq_some_iff.mp H
                      obtain ⟨t153, A330, H⟩ := H
                      replace H : (if t153 = true then ((glyph_Parse.f a0).bind fun t154 => ((hatstandlaw3_as.f k2 t154).bind fun t157 => ((hatstandref3_Same.f k2 t127 t157 true).bind fun t160 => (some t160)))) else (some false)) = some r := H
                      have A33 := Aside0.mk A330
                      clear A330
                      by_cases c34 : t153 = true
                      · subst c34
                        have H1 : ((glyph_Parse.f a0).bind fun t154 => ((hatstandlaw3_as.f k2 t154).bind fun t157 => ((hatstandref3_Same.f k2 t127 t157 true).bind fun t160 => (some t160)))) = some r := by rw [if_pos rfl] at H; exact H
                        clear H
                        have H := H1
                        clear H1
                        replace H := Option.bind_eq_some_iff.mp H
                        obtain ⟨t154, A350, H⟩ := H
                        replace H : ((hatstandlaw3_as.f k2 t154).bind fun t157 => ((hatstandref3_Same.f k2 t127 t157 true).bind fun t160 => (some t160))) = some r := H
                        have A35 := Aside0.mk A350
                        clear A350
                        replace H := Option.bind_eq_some_iff.mp H
                        obtain ⟨t157, A360, H⟩ := H
                        replace H : ((hatstandref3_Same.f k2 t127 t157 true).bind fun t160 => (some t160)) = some r := H
                        have A36 := Aside0.mk A360
                        clear A360
                        replace H := Option.bind_eq_some_iff.mp H
                        obtain ⟨t160, A370, H⟩ := H
                        replace H : (some t160) = some r := H
                        have A37 := Aside0.mk A370
                        clear A370
                        obtain rfl := Option.some.inj H
                        obtain ⟨Ao38, co38, eo38⟩ := Kd.N_slice HO_7.out
                        subst eo38
                        go_wp2_with (first | ((with_reducible refine gate_dst (N := 55) rfl ?_); (try (refine gate_guard (by rfl) ?_; dsimp only)); refine Kd.N_lit k29 _ 29 ?hg (N' := 55) ?hd (xs := ([] : List (S29))) (inner := []) (ok := (fun k_ => some k_ ≠ (v128 : Value).ownBlock ∧ some k_ ≠ (.slice Ao38 x7_2.length co38 : Value).ownBlock ∧ some k_ ≠ (v140 : Value).ownBlock)) (okp := (fun k_ => some k_ ≠ (v128 : Value).ownBlock ∧ some k_ ≠ (.slice Ao38 x7_2.length co38 : Value).ownBlock ∧ some k_ ≠ (v140 : Value).ownBlock)) ?hr ?hp (fun _ hk => hk) ((show ∀ k_, wr.heap.size ≤ k_ → (fun k_ => some k_ ≠ (v128 : Value).ownBlock ∧ some k_ ≠ (.slice Ao38 x7_2.length co38 : Value).ownBlock ∧ some k_ ≠ (v140 : Value).ownBlock) k_ from fun k_ hk => ⟨Kd.fresh' (Kd.N_lt (by (with_reducible repeat (first | apply Kd.N_alloc | apply Kd.N_drewN | apply Kd.N_drew)); exact HO_6.out)) k_ hk, Kd.fresh' (Kd.N_lt (by (with_reducible repeat (first | apply Kd.N_alloc | apply Kd.N_drewN | apply Kd.N_drew)); exact HO_7.out)) k_ hk, Kd.fresh' (Kd.N_lt (by (with_reducible repeat (first | apply Kd.N_alloc | apply Kd.N_drewN | apply Kd.N_drew)); exact HO_8.out)) k_ hk⟩) _ (Nat.le_refl _)) (Below.refl _ _) (Nat.le_refl _) (by simp) ?_; (case hd => rfl); (case hg => rfl); (case hr => first | (go_simp; done) | (go_simp; rfl)); (case hp => exact (Reps.none _ _)); intro v145 w39 ho40 hb hg_ hnew_; clear hg_ hnew_; (first | rw [← Ny144.out] at ho40 | (simp only [Int.reduceToNat] at ho40; rw [← Ny144.out] at ho40)); have n0_ := Aside0.mk (Kd.N_elder' (by (with_reducible repeat (first | apply Kd.N_alloc | apply Kd.N_drewN | apply Kd.N_drew)); exact HO_6.out) (Kd.N_base ho40) hb); have n1_ := Aside0.mk (Kd.N_elder' (by (with_reducible repeat (first | apply Kd.N_alloc | apply Kd.N_drewN | apply Kd.N_drew)); exact HO_7.out) (Kd.N_base ho40) hb); have n2_ := Aside0.mk (Kd.N_elder' (by (with_reducible repeat (first | apply Kd.N_alloc | apply Kd.N_drewN | apply Kd.N_drew)); exact HO_8.out) (Kd.N_base ho40) hb); have n3_ := Aside0.mk (Kd.N_lower ho40 (below_size (by repeat (first | (with_reducible first | exact HB.out | apply below_alloc | apply pw_below_drewN | apply below_drew1) | exact HB.out)))); have n4_ := Aside0.mk (below_step (by repeat (first | (with_reducible first | exact HB.out | apply below_alloc | apply pw_below_drewN | apply below_drew1) | exact HB.out)) hb); clear HO_6; clear HO_7; clear HO_8; clear HB; have HO_6 := n0_; have HO_7 := n1_; have HO_8 := n2_; have HO146 := n3_; have HB := n4_; clear n0_ n1_ n2_ n3_ n4_; clear hb ho40; obtain ⟨Ao42, co42, eo42⟩ := Kd.N_slice HO_6.out; subst eo42) | ((with_reducible refine gate_builtin (b := .append) (xs := #[.tmp 55, .tmp 56]) rfl ?_); (try (refine gate_guard (by rfl) ?_; dsimp only)); at_builtin; refine Kd.N_append_rows k29 (w0 := w) w.heap.size rfl (.tmp 55) (.tmp 56) 23 29 (.agg #[(.int .i64 0), (.slice none 0 0), (.bool false), (.int .i64 0)]) 48 rfl Tryd.underlying23 info29 rfl (by decide) (by omega) v145 y144 t127 _ _ _ (fun k_ => some k_ ≠ (.slice Ao38 x7_2.length co38 : Value).ownBlock ∧ some k_ ≠ (v140 : Value).ownBlock) (fun k_ => ((fun k_ => some k_ ≠ (.slice Ao38 x7_2.length co38 : Value).ownBlock ∧ some k_ ≠ (v140 : Value).ownBlock)) k_ ∧ some k_ ≠ (v145 : Value).ownBlock) rfl rfl ?aO ?aR (fun _ hk => hk) ?aF ?aB ?aS ?aL ?_; (case aR => exact (by skip; exact Kd.N_F (Kd.N_mono (ok' := (fun k_ => ((fun k_ => some k_ ≠ (.slice Ao38 x7_2.length co38 : Value).ownBlock ∧ some k_ ≠ (v140 : Value).ownBlock)) k_ ∧ some k_ ≠ (v145 : Value).ownBlock)) (HO_6.out) (fun k_ hk => ⟨⟨hk.1.1, hk.1.2⟩, hk.2⟩)))); (case aB => exact (by repeat (first | (with_reducible first | exact HB.out | apply below_alloc | apply pw_below_drewN | apply below_drew1) | exact HB.out))); (case aF => exact (fun k_ hk => ⟨Kd.fresh' (Kd.N_lt (by (with_reducible repeat (first | apply Kd.N_alloc | apply Kd.N_drewN | apply Kd.N_drew)); exact HO_7.out)) k_ hk, Kd.fresh' (Kd.N_lt (by (with_reducible repeat (first | apply Kd.N_alloc | apply Kd.N_drewN | apply Kd.N_drew)); exact HO_8.out)) k_ hk⟩)); (case aO => exact (by (with_reducible repeat (first | apply Kd.N_alloc | apply Kd.N_drewN | apply Kd.N_drew)); exact Kd.N_mono HO146.out (fun _ hk => ⟨hk.2.1, hk.2.2⟩))); (case aS => exact (below_size (by repeat (first | (with_reducible first | exact HB.out | apply below_alloc | apply pw_below_drewN | apply below_drew1) | exact HB.out)))); (case aL => have := LMc31.out; omega); intro v148 w41 ho hb hg hat; rw [← Ny147.out] at ho; have n0_ := Aside0.mk (Kd.N_afterv (ok := (fun k_ => some k_ ≠ (.slice Ao38 x7_2.length co38 : Value).ownBlock ∧ some k_ ≠ (v140 : Value).ownBlock)) (by (with_reducible repeat (first | apply Kd.N_alloc | apply Kd.N_drewN | apply Kd.N_drew)); exact HO_6.out) hg hat); have n1_ := Aside0.mk (Kd.N_afterv (ok := (fun k_ => some k_ ≠ (.slice Ao42 t127.length co42 : Value).ownBlock ∧ some k_ ≠ (v140 : Value).ownBlock)) (by (with_reducible repeat (first | apply Kd.N_alloc | apply Kd.N_drewN | apply Kd.N_drew)); exact HO_7.out) hg hat); have n2_ := Aside0.mk (Kd.N_afterv (ok := (fun k_ => some k_ ≠ (.slice Ao42 t127.length co42 : Value).ownBlock ∧ some k_ ≠ (.slice Ao38 x7_2.length co38 : Value).ownBlock)) (by (with_reducible repeat (first | apply Kd.N_alloc | apply Kd.N_drewN | apply Kd.N_drew)); exact HO_8.out) hg hat); have n3_ := Aside0.mk (hb); have n4_ := Aside0.mk (ho); clear HO_6; clear HO_7; clear HO_8; clear HB; clear HO146; have HO_6 := n0_; have HO_7 := n1_; have HO_8 := n2_; have HB := n3_; have HO149 := n4_; clear n0_ n1_ n2_ n3_ n4_; clear ho hb hg hat) | ((with_reducible refine gate_builtin (b := .append) (xs := #[.tmp 57, .tmp 58]) rfl ?_); (try (refine gate_guard (by rfl) ?_; dsimp only)); at_builtin; refine Kd.N_append_rows k29 (w0 := w) w.heap.size rfl (.tmp 57) (.tmp 58) 23 29 (.agg #[(.int .i64 0), (.slice none 0 0), (.bool false), (.int .i64 0)]) 48 rfl Tryd.underlying23 info29 rfl (by decide) (by omega) v148 y147 x7_2 _ _ _ (fun k_ => some k_ ≠ (v140 : Value).ownBlock) (fun k_ => ((fun k_ => some k_ ≠ (v140 : Value).ownBlock)) k_ ∧ some k_ ≠ (v148 : Value).ownBlock) rfl rfl ?aO ?aR (fun _ hk => hk) ?aF ?aB ?aS ?aL ?_; (case aR => exact (by skip; exact Kd.N_F (Kd.N_mono (ok' := (fun k_ => ((fun k_ => some k_ ≠ (v140 : Value).ownBlock)) k_ ∧ some k_ ≠ (v148 : Value).ownBlock)) (HO_7.out) (fun k_ hk => ⟨hk.1.2, hk.2⟩)))); (case aB => exact (by repeat (first | (with_reducible first | exact HB.out | apply below_alloc | apply pw_below_drewN | apply below_drew1) | exact HB.out))); (case aF => exact (fun k_ hk => Kd.fresh' (Kd.N_lt (by (with_reducible repeat (first | apply Kd.N_alloc | apply Kd.N_drewN | apply Kd.N_drew)); exact HO_8.out)) k_ hk)); (case aO => exact (by (with_reducible repeat (first | apply Kd.N_alloc | apply Kd.N_drewN | apply Kd.N_drew)); exact Kd.N_mono HO149.out (fun _ hk => by first | exact hk.2 | exact hk))); (case aS => exact (below_size (by repeat (first | (with_reducible first | exact HB.out | apply below_alloc | apply pw_below_drewN | apply below_drew1) | exact HB.out)))); (case aL => have := LMc32.out; omega); intro v151 w43 ho hb hg hat; rw [← Ny150.out] at ho; have n0_ := Aside0.mk (Kd.N_afterv (ok := (fun k_ => some k_ ≠ (.slice Ao38 x7_2.length co38 : Value).ownBlock ∧ some k_ ≠ (v140 : Value).ownBlock)) (by (with_reducible repeat (first | apply Kd.N_alloc | apply Kd.N_drewN | apply Kd.N_drew)); exact HO_6.out) hg hat); have n1_ := Aside0.mk (Kd.N_afterv (ok := (fun k_ => some k_ ≠ (.slice Ao42 t127.length co42 : Value).ownBlock ∧ some k_ ≠ (v140 : Value).ownBlock)) (by (with_reducible repeat (first | apply Kd.N_alloc | apply Kd.N_drewN | apply Kd.N_drew)); exact HO_7.out) hg hat); have n2_ := Aside0.mk (Kd.N_afterv (ok := (fun k_ => some k_ ≠ (.slice Ao42 t127.length co42 : Value).ownBlock ∧ some k_ ≠ (.slice Ao38 x7_2.length co38 : Value).ownBlock)) (by (with_reducible repeat (first | apply Kd.N_alloc | apply Kd.N_drewN | apply Kd.N_drew)); exact HO_8.out) hg hat); have n3_ := Aside0.mk (hb); have n4_ := Aside0.mk (ho); clear HO_6; clear HO_7; clear HO_8; clear HB; clear HO149; have HO_6 := n0_; have HO_7 := n1_; have HO_8 := n2_; have HB := n3_; have HO152 := n4_; clear n0_ n1_ n2_ n3_ n4_; clear ho hb hg hat; obtain ⟨Ao44, co44, eo44⟩ := Kd.N_slice HO_8.out; subst eo44; obtain ⟨Ao45, co45, eo45⟩ := Kd.N_slice HO152.out; subst eo45) | ((with_reducible refine gate_callee (f := 13) rfl ?_); refine goesL_ (some 60) rfl rfl Tryd.func13 (by kernel_rfl) rfl #[.slice Ao44 t139.length co44, .slice Ao45 y150.length co45, .bool true] rfl (by (try simp only [List.map_toArray, List.map_cons, List.map_nil]); first | done | rfl | (simp only [List.length_drop, List.length_take]; rfl)) ?_; (with_reducible refine (hatstandref3_Same.calls k2 _ _ t139 _ _ y150 true true _ ?side1 ?side2 ?side3 ?side4 A33.out).mono ?_); (case side1 => repeat (first | exact (Kd.N_reads' HO_8.out).2.2 | (with_reducible refine Kd.C_alloc ?_ _) | (with_reducible refine Kd.C_drewN ?_ _) | (with_reducible refine Kd.C_drew ?_))); (case side2 => exact (Kd.N_reads' HO_8.out).2.1); (case side3 => repeat (first | exact (Kd.N_reads' HO152.out).2.2 | (with_reducible refine Kd.C_alloc ?_ _) | (with_reducible refine Kd.C_drewN ?_ _) | (with_reducible refine Kd.C_drew ?_))); (case side4 => exact (Kd.N_reads' HO152.out).2.1); rintro e w' ⟨rfl, ⟨nd, rfl⟩⟩; refine ⟨_, rfl, ?_⟩) | (go_at_call 12; (with_reducible refine (glyph_Parse.calls a0 t154 _ ?side1 A35.out).mono ?_); (case side1 => exact GG_at hG (by repeat (first | (with_reducible first | exact HB.out | apply below_alloc | apply pw_below_drewN | apply below_drew1) | exact HB.out))); rintro e w46 ⟨v155, rfl, ho0, hb⟩; have n0_ := Aside0.mk (Kd.N_elder' (by (with_reducible repeat (first | apply Kd.N_alloc | apply Kd.N_drewN | apply Kd.N_drew)); exact HO_6.out) (Kd.N_base ho0) hb); have n1_ := Aside0.mk (Kd.N_elder' (by (with_reducible repeat (first | apply Kd.N_alloc | apply Kd.N_drewN | apply Kd.N_drew)); exact HO_7.out) (Kd.N_base ho0) hb); have n2_ := Aside0.mk (Kd.N_elder' (by (with_reducible repeat (first | apply Kd.N_alloc | apply Kd.N_drewN | apply Kd.N_drew)); exact HO_8.out) (Kd.N_base ho0) hb); have n3_ := Aside0.mk (Kd.N_elder' (by (with_reducible repeat (first | apply Kd.N_alloc | apply Kd.N_drewN | apply Kd.N_drew)); exact HO152.out) (Kd.N_base ho0) hb); have n4_ := Aside0.mk (Kd.N_lower (Kd.N_mono (ok' := fun k_ => some k_ ≠ (.slice Ao42 t127.length co42 : Value).ownBlock ∧ some k_ ≠ (.slice Ao38 x7_2.length co38 : Value).ownBlock ∧ some k_ ≠ (.slice Ao44 t139.length co44 : Value).ownBlock ∧ some k_ ≠ (.slice Ao45 y150.length co45 : Value).ownBlock) ho0 (fun k_ hk_ => ⟨(Kd.fresh' (Kd.N_lt (by (with_reducible repeat (first | apply Kd.N_alloc | apply Kd.N_drewN | apply Kd.N_drew)); exact HO_6.out)) k_ hk_), (Kd.fresh' (Kd.N_lt (by (with_reducible repeat (first | apply Kd.N_alloc | apply Kd.N_drewN | apply Kd.N_drew)); exact HO_7.out)) k_ hk_), (Kd.fresh' (Kd.N_lt (by (with_reducible repeat (first | apply Kd.N_alloc | apply Kd.N_drewN | apply Kd.N_drew)); exact HO_8.out)) k_ hk_), (Kd.fresh' (Kd.N_lt (by (with_reducible repeat (first | apply Kd.N_alloc | apply Kd.N_drewN | apply Kd.N_drew)); exact HO152.out)) k_ hk_)⟩)) (below_size (by repeat (first | (with_reducible first | exact HB.out | apply below_alloc | apply pw_below_drewN | apply below_drew1) | exact HB.out)))); have n5_ := Aside0.mk (below_step (by repeat (first | (with_reducible first | exact HB.out | apply below_alloc | apply pw_below_drewN | apply below_drew1) | exact HB.out)) hb); clear HO_6; clear HO_7; clear HO_8; clear HO152; clear HB; have HO_6 := n0_; have HO_7 := n1_; have HO_8 := n2_; have HO152 := n3_; have HO156 := n4_; have HB := n5_; clear n0_ n1_ n2_ n3_ n4_ n5_; (try clear hb); (try clear hb2); (try clear hk); (try clear hi); (try clear ho0); obtain ⟨Ao47, co47, eo47⟩ := Kd.N_slice HO156.out; subst eo47) | (go_at_call 11; (with_reducible refine (hatstandlaw3_as.calls k2 (fun k_ => (some k_ ≠ (.slice Ao42 t127.length co42 : Value).ownBlock ∧ (some k_ ≠ (.slice Ao38 x7_2.length co38 : Value).ownBlock ∧ (some k_ ≠ (.slice Ao44 t139.length co44 : Value).ownBlock ∧ some k_ ≠ (.slice Ao45 y150.length co45 : Value).ownBlock)))) _ _ t154 t157 _ ?side1 A36.out).mono ?_); (case side1 => exact Kd.N_V (HO156.out)); rintro e w48 ⟨v158, rfl, ho0, hb⟩; have n0_ := Aside0.mk (Kd.N_elder' (by (with_reducible repeat (first | apply Kd.N_alloc | apply Kd.N_drewN | apply Kd.N_drew)); exact HO_6.out) (Kd.N_base ho0) hb); have n1_ := Aside0.mk (Kd.N_elder' (by (with_reducible repeat (first | apply Kd.N_alloc | apply Kd.N_drewN | apply Kd.N_drew)); exact HO_7.out) (Kd.N_base ho0) hb); have n2_ := Aside0.mk (Kd.N_elder' (by (with_reducible repeat (first | apply Kd.N_alloc | apply Kd.N_drewN | apply Kd.N_drew)); exact HO_8.out) (Kd.N_base ho0) hb); have n3_ := Aside0.mk (Kd.N_elder' (by (with_reducible repeat (first | apply Kd.N_alloc | apply Kd.N_drewN | apply Kd.N_drew)); exact HO152.out) (Kd.N_base ho0) hb); have n4_ := Aside0.mk (Kd.N_elder' (by (with_reducible repeat (first | apply Kd.N_alloc | apply Kd.N_drewN | apply Kd.N_drew)); exact HO156.out) (Kd.N_base ho0) hb); have n5_ := Aside0.mk (Kd.N_lower (Kd.N_mono (ok' := fun k_ => some k_ ≠ (.slice Ao42 t127.length co42 : Value).ownBlock ∧ some k_ ≠ (.slice Ao38 x7_2.length co38 : Value).ownBlock ∧ some k_ ≠ (.slice Ao44 t139.length co44 : Value).ownBlock ∧ some k_ ≠ (.slice Ao45 y150.length co45 : Value).ownBlock) ho0 (fun k_ hk_ => ⟨Or.elim hk_ (fun hs_ => hs_.1) (fun hn_ => (Kd.fresh' (Kd.N_lt (by (with_reducible repeat (first | apply Kd.N_alloc | apply Kd.N_drewN | apply Kd.N_drew)); exact HO_6.out)) k_ hn_)), Or.elim hk_ (fun hs_ => hs_.2.1) (fun hn_ => (Kd.fresh' (Kd.N_lt (by (with_reducible repeat (first | apply Kd.N_alloc | apply Kd.N_drewN | apply Kd.N_drew)); exact HO_7.out)) k_ hn_)), Or.elim hk_ (fun hs_ => hs_.2.2.1) (fun hn_ => (Kd.fresh' (Kd.N_lt (by (with_reducible repeat (first | apply Kd.N_alloc | apply Kd.N_drewN | apply Kd.N_drew)); exact HO_8.out)) k_ hn_)), Or.elim hk_ (fun hs_ => hs_.2.2.2) (fun hn_ => (Kd.fresh' (Kd.N_lt (by (with_reducible repeat (first | apply Kd.N_alloc | apply Kd.N_drewN | apply Kd.N_drew)); exact HO152.out)) k_ hn_))⟩)) (below_size (by repeat (first | (with_reducible first | exact HB.out | apply below_alloc | apply pw_below_drewN | apply below_drew1) | exact HB.out)))); have n6_ := Aside0.mk (below_step (by repeat (first | (with_reducible first | exact HB.out | apply below_alloc | apply pw_below_drewN | apply below_drew1) | exact HB.out)) hb); clear HO_6; clear HO_7; clear HO_8; clear HO152; clear HO156; clear HB; have HO_6 := n0_; have HO_7 := n1_; have HO_8 := n2_; have HO152 := n3_; have HO156 := n4_; have HO159 := n5_; have HB := n6_; clear n0_ n1_ n2_ n3_ n4_ n5_ n6_; (try clear hb); (try clear hb2); (try clear hk); (try clear hi); (try clear ho0); obtain ⟨Ao49, co49, eo49⟩ := Kd.N_slice HO159.out; subst eo49) | (go_at_call 13; (with_reducible refine (hatstandref3_Same.calls k2 _ _ t127 _ _ t157 true t160 _ ?side1 ?side2 ?side3 ?side4 A37.out).mono ?_); (case side1 => repeat (first | exact (Kd.N_reads' HO_6.out).2.2 | (with_reducible refine Kd.C_alloc ?_ _) | (with_reducible refine Kd.C_drewN ?_ _) | (with_reducible refine Kd.C_drew ?_))); (case side2 => exact (Kd.N_reads' HO_6.out).2.1); (case side3 => repeat (first | exact (Kd.N_reads' HO159.out).2.2 | (with_reducible refine Kd.C_alloc ?_ _) | (with_reducible refine Kd.C_drewN ?_ _) | (with_reducible refine Kd.C_drew ?_))); (case side4 => exact (Kd.N_reads' HO159.out).2.1); rintro e w' ⟨rfl, ⟨nd, rfl⟩⟩))
                        go_ret
                        exact ⟨by first | rfl | (simp [errW_none, errW_some] <;> rfl) | (simp [*, errW_none, errW_some] <;> rfl), by repeat (first | (with_reducible first | exact HB.out | apply below_alloc | apply pw_below_drewN | apply below_drew1) | exact HB.out)⟩
                      · replace c34 := Bool.eq_false_iff.mpr c34
                        subst c34
                        have H1 : (some false) = some r := by rw [if_neg (show ¬ (false = true) by decide)] at H; exact H
                        clear H
                        have H := H1
                        clear H1
                        obtain rfl := Option.some.inj H
                        obtain ⟨Ao50, co50, eo50⟩ := Kd.N_slice HO_7.out
                        subst eo50
                        go_wp2_with (first | ((with_reducible refine gate_dst (N := 55) rfl ?_); (try (refine gate_guard (by rfl) ?_; dsimp only)); refine Kd.N_lit k29 _ 29 ?hg (N' := 55) ?hd (xs := ([] : List (S29))) (inner := []) (ok := (fun k_ => some k_ ≠ (v128 : Value).ownBlock ∧ some k_ ≠ (.slice Ao50 x7_2.length co50 : Value).ownBlock ∧ some k_ ≠ (v140 : Value).ownBlock)) (okp := (fun k_ => some k_ ≠ (v128 : Value).ownBlock ∧ some k_ ≠ (.slice Ao50 x7_2.length co50 : Value).ownBlock ∧ some k_ ≠ (v140 : Value).ownBlock)) ?hr ?hp (fun _ hk => hk) ((show ∀ k_, wr.heap.size ≤ k_ → (fun k_ => some k_ ≠ (v128 : Value).ownBlock ∧ some k_ ≠ (.slice Ao50 x7_2.length co50 : Value).ownBlock ∧ some k_ ≠ (v140 : Value).ownBlock) k_ from fun k_ hk => ⟨Kd.fresh' (Kd.N_lt (by (with_reducible repeat (first | apply Kd.N_alloc | apply Kd.N_drewN | apply Kd.N_drew)); exact HO_6.out)) k_ hk, Kd.fresh' (Kd.N_lt (by (with_reducible repeat (first | apply Kd.N_alloc | apply Kd.N_drewN | apply Kd.N_drew)); exact HO_7.out)) k_ hk, Kd.fresh' (Kd.N_lt (by (with_reducible repeat (first | apply Kd.N_alloc | apply Kd.N_drewN | apply Kd.N_drew)); exact HO_8.out)) k_ hk⟩) _ (Nat.le_refl _)) (Below.refl _ _) (Nat.le_refl _) (by simp) ?_; (case hd => rfl); (case hg => rfl); (case hr => first | (go_simp; done) | (go_simp; rfl)); (case hp => exact (Reps.none _ _)); intro v145 w51 ho52 hb hg_ hnew_; clear hg_ hnew_; (first | rw [← Ny144.out] at ho52 | (simp only [Int.reduceToNat] at ho52; rw [← Ny144.out] at ho52)); have n0_ := Aside0.mk (Kd.N_elder' (by (with_reducible repeat (first | apply Kd.N_alloc | apply Kd.N_drewN | apply Kd.N_drew)); exact HO_6.out) (Kd.N_base ho52) hb); have n1_ := Aside0.mk (Kd.N_elder' (by (with_reducible repeat (first | apply Kd.N_alloc | apply Kd.N_drewN | apply Kd.N_drew)); exact HO_7.out) (Kd.N_base ho52) hb); have n2_ := Aside0.mk (Kd.N_elder' (by (with_reducible repeat (first | apply Kd.N_alloc | apply Kd.N_drewN | apply Kd.N_drew)); exact HO_8.out) (Kd.N_base ho52) hb); have n3_ := Aside0.mk (Kd.N_lower ho52 (below_size (by repeat (first | (with_reducible first | exact HB.out | apply below_alloc | apply pw_below_drewN | apply below_drew1) | exact HB.out)))); have n4_ := Aside0.mk (below_step (by repeat (first | (with_reducible first | exact HB.out | apply below_alloc | apply pw_below_drewN | apply below_drew1) | exact HB.out)) hb); clear HO_6; clear HO_7; clear HO_8; clear HB; have HO_6 := n0_; have HO_7 := n1_; have HO_8 := n2_; have HO146 := n3_; have HB := n4_; clear n0_ n1_ n2_ n3_ n4_; clear hb ho52; obtain ⟨Ao54, co54, eo54⟩ := Kd.N_slice HO_6.out; subst eo54) | ((with_reducible refine gate_builtin (b := .append) (xs := #[.tmp 55, .tmp 56]) rfl ?_); (try (refine gate_guard (by rfl) ?_; dsimp only)); at_builtin; refine Kd.N_append_rows k29 (w0 := w) w.heap.size rfl (.tmp 55) (.tmp 56) 23 29 (.agg #[(.int .i64 0), (.slice none 0 0), (.bool false), (.int .i64 0)]) 48 rfl Tryd.underlying23 info29 rfl (by decide) (by omega) v145 y144 t127 _ _ _ (fun k_ => some k_ ≠ (.slice Ao50 x7_2.length co50 : Value).ownBlock ∧ some k_ ≠ (v140 : Value).ownBlock) (fun k_ => ((fun k_ => some k_ ≠ (.slice Ao50 x7_2.length co50 : Value).ownBlock ∧ some k_ ≠ (v140 : Value).ownBlock)) k_ ∧ some k_ ≠ (v145 : Value).ownBlock) rfl rfl ?aO ?aR (fun _ hk => hk) ?aF ?aB ?aS ?aL ?_; (case aR => exact (by skip; exact Kd.N_F (Kd.N_mono (ok' := (fun k_ => ((fun k_ => some k_ ≠ (.slice Ao50 x7_2.length co50 : Value).ownBlock ∧ some k_ ≠ (v140 : Value).ownBlock)) k_ ∧ some k_ ≠ (v145 : Value).ownBlock)) (HO_6.out) (fun k_ hk => ⟨⟨hk.1.1, hk.1.2⟩, hk.2⟩)))); (case aB => exact (by repeat (first | (with_reducible first | exact HB.out | apply below_alloc | apply pw_below_drewN | apply below_drew1) | exact HB.out))); (case aF => exact (fun k_ hk => ⟨Kd.fresh' (Kd.N_lt (by (with_reducible repeat (first | apply Kd.N_alloc | apply Kd.N_drewN | apply Kd.N_drew)); exact HO_7.out)) k_ hk, Kd.fresh' (Kd.N_lt (by (with_reducible repeat (first | apply Kd.N_alloc | apply Kd.N_drewN | apply Kd.N_drew)); exact HO_8.out)) k_ hk⟩)); (case aO => exact (by (with_reducible repeat (first | apply Kd.N_alloc | apply Kd.N_drewN | apply Kd.N_drew)); exact Kd.N_mono HO146.out (fun _ hk => ⟨hk.2.1, hk.2.2⟩))); (case aS => exact (below_size (by repeat (first | (with_reducible first | exact HB.out | apply below_alloc | apply pw_below_drewN | apply below_drew1) | exact HB.out)))); (case aL => have := LMc31.out; omega); intro v148 w53 ho hb hg hat; rw [← Ny147.out] at ho; have n0_ := Aside0.mk (Kd.N_afterv (ok := (fun k_ => some k_ ≠ (.slice Ao50 x7_2.length co50 : Value).ownBlock ∧ some k_ ≠ (v140 : Value).ownBlock)) (by (with_reducible repeat (first | apply Kd.N_alloc | apply Kd.N_drewN | apply Kd.N_drew)); exact HO_6.out) hg hat); have n1_ := Aside0.mk (Kd.N_afterv (ok := (fun k_ => some k_ ≠ (.slice Ao54 t127.length co54 : Value).ownBlock ∧ some k_ ≠ (v140 : Value).ownBlock)) (by (with_reducible repeat (first | apply Kd.N_alloc | apply Kd.N_drewN | apply Kd.N_drew)); exact HO_7.out) hg hat); have n2_ := Aside0.mk (Kd.N_afterv (ok := (fun k_ => some k_ ≠ (.slice Ao54 t127.length co54 : Value).ownBlock ∧ some k_ ≠ (.slice Ao50 x7_2.length co50 : Value).ownBlock)) (by (with_reducible repeat (first | apply Kd.N_alloc | apply Kd.N_drewN | apply Kd.N_drew)); exact HO_8.out) hg hat); have n3_ := Aside0.mk (hb); have n4_ := Aside0.mk (ho); clear HO_6; clear HO_7; clear HO_8; clear HB; clear HO146; have HO_6 := n0_; have HO_7 := n1_; have HO_8 := n2_; have HB := n3_; have HO149 := n4_; clear n0_ n1_ n2_ n3_ n4_; clear ho hb hg hat) | ((with_reducible refine gate_builtin (b := .append) (xs := #[.tmp 57, .tmp 58]) rfl ?_); (try (refine gate_guard (by rfl) ?_; dsimp only)); at_builtin; refine Kd.N_append_rows k29 (w0 := w) w.heap.size rfl (.tmp 57) (.tmp 58) 23 29 (.agg #[(.int .i64 0), (.slice none 0 0), (.bool false), (.int .i64 0)]) 48 rfl Tryd.underlying23 info29 rfl (by decide) (by omega) v148 y147 x7_2 _ _ _ (fun k_ => some k_ ≠ (v140 : Value).ownBlock) (fun k_ => ((fun k_ => some k_ ≠ (v140 : Value).ownBlock)) k_ ∧ some k_ ≠ (v148 : Value).ownBlock) rfl rfl ?aO ?aR (fun _ hk => hk) ?aF ?aB ?aS ?aL ?_; (case aR => exact (by skip; exact Kd.N_F (Kd.N_mono (ok' := (fun k_ => ((fun k_ => some k_ ≠ (v140 : Value).ownBlock)) k_ ∧ some k_ ≠ (v148 : Value).ownBlock)) (HO_7.out) (fun k_ hk => ⟨hk.1.2, hk.2⟩)))); (case aB => exact (by repeat (first | (with_reducible first | exact HB.out | apply below_alloc | apply pw_below_drewN | apply below_drew1) | exact HB.out))); (case aF => exact (fun k_ hk => Kd.fresh' (Kd.N_lt (by (with_reducible repeat (first | apply Kd.N_alloc | apply Kd.N_drewN | apply Kd.N_drew)); exact HO_8.out)) k_ hk)); (case aO => exact (by (with_reducible repeat (first | apply Kd.N_alloc | apply Kd.N_drewN | apply Kd.N_drew)); exact Kd.N_mono HO149.out (fun _ hk => by first | exact hk.2 | exact hk))); (case aS => exact (below_size (by repeat (first | (with_reducible first | exact HB.out | apply below_alloc | apply pw_below_drewN | apply below_drew1) | exact HB.out)))); (case aL => have := LMc32.out; omega); intro v151 w55 ho hb hg hat; rw [← Ny150.out] at ho; have n0_ := Aside0.mk (Kd.N_afterv (ok := (fun k_ => some k_ ≠ (.slice Ao50 x7_2.length co50 : Value).ownBlock ∧ some k_ ≠ (v140 : Value).ownBlock)) (by (with_reducible repeat (first | apply Kd.N_alloc | apply Kd.N_drewN | apply Kd.N_drew)); exact HO_6.out) hg hat); have n1_ := Aside0.mk (Kd.N_afterv (ok := (fun k_ => some k_ ≠ (.slice Ao54 t127.length co54 : Value).ownBlock ∧ some k_ ≠ (v140 : Value).ownBlock)) (by (with_reducible repeat (first | apply Kd.N_alloc | apply Kd.N_drewN | apply Kd.N_drew)); exact HO_7.out) hg hat); have n2_ := Aside0.mk (Kd.N_afterv (ok := (fun k_ => some k_ ≠ (.slice Ao54 t127.length co54 : Value).ownBlock ∧ some k_ ≠ (.slice Ao50 x7_2.length co50 : Value).ownBlock)) (by (with_reducible repeat (first | apply Kd.N_alloc | apply Kd.N_drewN | apply Kd.N_drew)); exact HO_8.out) hg hat); have n3_ := Aside0.mk (hb); have n4_ := Aside0.mk (ho); clear HO_6; clear HO_7; clear HO_8; clear HB; clear HO149; have HO_6 := n0_; have HO_7 := n1_; have HO_8 := n2_; have HB := n3_; have HO152 := n4_; clear n0_ n1_ n2_ n3_ n4_; clear ho hb hg hat; obtain ⟨Ao56, co56, eo56⟩ := Kd.N_slice HO_8.out; subst eo56; obtain ⟨Ao57, co57, eo57⟩ := Kd.N_slice HO152.out; subst eo57) | ((with_reducible refine gate_callee (f := 13) rfl ?_); refine goesL_ (some 60) rfl rfl Tryd.func13 (by kernel_rfl) rfl #[.slice Ao56 t139.length co56, .slice Ao57 y150.length co57, .bool true] rfl (by (try simp only [List.map_toArray, List.map_cons, List.map_nil]); first | done | rfl | (simp only [List.length_drop, List.length_take]; rfl)) ?_; (with_reducible refine (hatstandref3_Same.calls k2 _ _ t139 _ _ y150 true false _ ?side1 ?side2 ?side3 ?side4 A33.out).mono ?_); (case side1 => repeat (first | exact (Kd.N_reads' HO_8.out).2.2 | (with_reducible refine Kd.C_alloc ?_ _) | (with_reducible refine Kd.C_drewN ?_ _) | (with_reducible refine Kd.C_drew ?_))); (case side2 => exact (Kd.N_reads' HO_8.out).2.1); (case side3 => repeat (first | exact (Kd.N_reads' HO152.out).2.2 | (with_reducible refine Kd.C_alloc ?_ _) | (with_reducible refine Kd.C_drewN ?_ _) | (with_reducible refine Kd.C_drew ?_))); (case side4 => exact (Kd.N_reads' HO152.out).2.1); rintro e w' ⟨rfl, ⟨nd, rfl⟩⟩; refine ⟨_, rfl, ?_⟩))
                        go_ret
                        exact ⟨by first | rfl | (simp [errW_none, errW_some] <;> rfl) | (simp [*, errW_none, errW_some] <;> rfl), by repeat (first | (with_reducible first | exact HB.out | apply below_alloc | apply pw_below_drewN | apply below_drew1) | exact HB.out)⟩
                    · rw [if_neg c32] at H
                      exact absurd H (by simp)
                  · rw [if_neg c31] at H
                    exact absurd H (by simp)
          · rw [if_neg c13] at H
            exact absurd H (by simp)
        · rw [if_neg c8] at H
          exact absurd H (by simp)

end Go.Proofs.YtcldjdngfmakbaaDoor.G

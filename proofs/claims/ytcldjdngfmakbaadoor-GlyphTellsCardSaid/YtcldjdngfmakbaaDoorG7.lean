-- Written by this session's own program wip/tool/myprint.py over the kit's printer; not trusted: Lean checks it.
import Derived.Test.YtcldjdngfmakbaaDoorG0
import Derived.Test.YtcldjdngfmakbaaDoorG6
import Derived.Test.YtcldjdngfmakbaaDoorGround
namespace Go.Proofs.YtcldjdngfmakbaaDoor.G
open Go.RowKit Go.Proofs.YtcldjdngfmakbaaDoorW.PrintWords Go.Proofs.YtcldjdngfmakbaaDoorW.PrintLast Go.Proofs.YtcldjdngfmakbaaDoorW.PrintMore
attribute [local go_sem] max2_int min2_int max_two min_two max_three min_three max_four min_four   -- for this text's walks alone
set_option linter.unusedVariables false
set_option linter.unusedSimpArgs false

open Go.Proofs.YtcldjdngfmakbaaDoor
/-! ### hatstandref3_Rune: function 32 -/
mutual
def hatstandref3_Rune.j0 : Nat → ByteArray → Int → Bool → Option (Int × Int)
  | 0, _, _, _ => none
  | k + 1, x0, x4, x16 => if x16 = true then (if 1 < (x0.size : Int) then (some ((((x4 - 192) % 256) * 64) + (((bt x0 1) - 128) % 256), 2)) else (none)) else (if x4 ≥ 224 then (hatstandref3_Rune.j1 k x0 x4 (decide (x4 ≤ 239))) else (hatstandref3_Rune.j1 k x0 x4 false))
def hatstandref3_Rune.j1 : Nat → ByteArray → Int → Bool → Option (Int × Int)
  | 0, _, _, _ => none
  | k + 1, x0, x4, x36 => if x36 = true then (if x4 = 224 then (hatstandref3_Rune.j2 k x0 x4 160 191) else (hatstandref3_Rune.j2 k x0 x4 128 191)) else (if x4 ≥ 240 then (hatstandref3_Rune.j4 k x0 x4 (decide (x4 ≤ 244))) else (hatstandref3_Rune.j4 k x0 x4 false))
def hatstandref3_Rune.j2 : Nat → ByteArray → Int → Int → Int → Option (Int × Int)
  | 0, _, _, _, _ => none
  | k + 1, x0, x4, x5, x6 => if x4 = 237 then (hatstandref3_Rune.j3 k x0 x4 x5 159) else (hatstandref3_Rune.j3 k x0 x4 x5 x6)
def hatstandref3_Rune.j3 : Nat → ByteArray → Int → Int → Int → Option (Int × Int)
  | 0, _, _, _, _ => none
  | k + 1, x0, x4, x5, x6 => (hatstandref3_next.f x0 1 x5 x6).bind fun t212 => (if t212 = true then ((hatstandref3_next.f x0 2 128 191).bind fun t213 => (if t213 = true then (if 1 < (x0.size : Int) then (if 2 < (x0.size : Int) then (some (((((x4 - 224) % 256) * 4096) + ((((bt x0 1) - 128) % 256) * 64)) + (((bt x0 2) - 128) % 256), 3)) else (none)) else (none)) else (some (65533, 1)))) else (some (65533, 1)))
def hatstandref3_Rune.j4 : Nat → ByteArray → Int → Bool → Option (Int × Int)
  | 0, _, _, _ => none
  | k + 1, x0, x4, x70 => if x70 = true then (if x4 = 240 then (hatstandref3_Rune.j5 k x0 x4 144 191) else (hatstandref3_Rune.j5 k x0 x4 128 191)) else (some (65533, 1))
def hatstandref3_Rune.j5 : Nat → ByteArray → Int → Int → Int → Option (Int × Int)
  | 0, _, _, _, _ => none
  | k + 1, x0, x4, x7, x8 => if x4 = 244 then (hatstandref3_Rune.j6 k x0 x4 x7 143) else (hatstandref3_Rune.j6 k x0 x4 x7 x8)
def hatstandref3_Rune.j6 : Nat → ByteArray → Int → Int → Int → Option (Int × Int)
  | 0, _, _, _, _ => none
  | k + 1, x0, x4, x7, x8 => (hatstandref3_next.f x0 1 x7 x8).bind fun t214 => (if t214 = true then ((hatstandref3_next.f x0 2 128 191).bind fun t215 => (if t215 = true then ((hatstandref3_next.f x0 3 128 191).bind fun t216 => (if t216 = true then (if 1 < (x0.size : Int) then (if 2 < (x0.size : Int) then (if 3 < (x0.size : Int) then (some ((((((x4 - 240) % 256) * 262144) + ((((bt x0 1) - 128) % 256) * 4096)) + ((((bt x0 2) - 128) % 256) * 64)) + (((bt x0 3) - 128) % 256), 4)) else (none)) else (none)) else (none)) else (some (65533, 1)))) else (some (65533, 1)))) else (some (65533, 1)))
end
def hatstandref3_Rune.f (k : Nat) (a0 : ByteArray) : Option (Int × Int) := if 0 < (a0.size : Int) then (if (bt a0 0) < 128 then (some (wrap64 (bt a0 0), 1)) else (if (bt a0 0) ≥ 194 then (if (bt a0 0) ≤ 223 then ((hatstandref3_next.f a0 1 128 191).bind fun t211 => (hatstandref3_Rune.j0 k a0 (bt a0 0) t211)) else (hatstandref3_Rune.j0 k a0 (bt a0 0) false)) else (hatstandref3_Rune.j0 k a0 (bt a0 0) false))) else (none)
theorem hatstandref3_Rune.mono_l : ∀ k, (∀ y0 y1 y2, LeO (hatstandref3_Rune.j0 k y0 y1 y2) (hatstandref3_Rune.j0 (k + 1) y0 y1 y2)) ∧ (∀ y0 y1 y2, LeO (hatstandref3_Rune.j1 k y0 y1 y2) (hatstandref3_Rune.j1 (k + 1) y0 y1 y2)) ∧ (∀ y0 y1 y2 y3, LeO (hatstandref3_Rune.j2 k y0 y1 y2 y3) (hatstandref3_Rune.j2 (k + 1) y0 y1 y2 y3)) ∧ (∀ y0 y1 y2 y3, LeO (hatstandref3_Rune.j3 k y0 y1 y2 y3) (hatstandref3_Rune.j3 (k + 1) y0 y1 y2 y3)) ∧ (∀ y0 y1 y2, LeO (hatstandref3_Rune.j4 k y0 y1 y2) (hatstandref3_Rune.j4 (k + 1) y0 y1 y2)) ∧ (∀ y0 y1 y2 y3, LeO (hatstandref3_Rune.j5 k y0 y1 y2 y3) (hatstandref3_Rune.j5 (k + 1) y0 y1 y2 y3)) ∧ (∀ y0 y1 y2 y3, LeO (hatstandref3_Rune.j6 k y0 y1 y2 y3) (hatstandref3_Rune.j6 (k + 1) y0 y1 y2 y3))
  | 0 => ⟨fun _ _ _ r h => by simp [hatstandref3_Rune.j0] at h, fun _ _ _ r h => by simp [hatstandref3_Rune.j1] at h, fun _ _ _ _ r h => by simp [hatstandref3_Rune.j2] at h, fun _ _ _ _ r h => by simp [hatstandref3_Rune.j3] at h, fun _ _ _ r h => by simp [hatstandref3_Rune.j4] at h, fun _ _ _ _ r h => by simp [hatstandref3_Rune.j5] at h, fun _ _ _ _ r h => by simp [hatstandref3_Rune.j6] at h⟩
  | k + 1 => by
    obtain ⟨ih0, ih1, ih2, ih3, ih4, ih5, ih6⟩ := hatstandref3_Rune.mono_l k
    refine ⟨?_, ?_, ?_, ?_, ?_, ?_, ?_⟩
    · intro y0 y1 y2
      unfold hatstandref3_Rune.j0
      repeat' first
      | (with_reducible exact ih0 _ _ _)
      | (with_reducible exact ih1 _ _ _)
      | (with_reducible exact ih2 _ _ _ _)
      | (with_reducible exact ih3 _ _ _ _)
      | (with_reducible exact ih4 _ _ _)
      | (with_reducible exact ih5 _ _ _ _)
      | (with_reducible exact ih6 _ _ _ _)
      | (with_reducible exact LeO.refl _)
      | (with_reducible exact LeO.none _)
      | (with_reducible refine LeO.ite ?_ ?_)
      | (with_reducible refine LeO.bind ?_ (fun _ => ?_))
      | exact ih0 _ _ _
      | exact ih1 _ _ _
      | exact ih2 _ _ _ _
      | exact ih3 _ _ _ _
      | exact ih4 _ _ _
      | exact ih5 _ _ _ _
      | exact ih6 _ _ _ _
      | exact LeO.none _
      | refine LeO.ite ?_ ?_
      | refine LeO.bind ?_ (fun _ => ?_)
    · intro y0 y1 y2
      unfold hatstandref3_Rune.j1
      repeat' first
      | (with_reducible exact ih0 _ _ _)
      | (with_reducible exact ih1 _ _ _)
      | (with_reducible exact ih2 _ _ _ _)
      | (with_reducible exact ih3 _ _ _ _)
      | (with_reducible exact ih4 _ _ _)
      | (with_reducible exact ih5 _ _ _ _)
      | (with_reducible exact ih6 _ _ _ _)
      | (with_reducible exact LeO.refl _)
      | (with_reducible exact LeO.none _)
      | (with_reducible refine LeO.ite ?_ ?_)
      | (with_reducible refine LeO.bind ?_ (fun _ => ?_))
      | exact ih0 _ _ _
      | exact ih1 _ _ _
      | exact ih2 _ _ _ _
      | exact ih3 _ _ _ _
      | exact ih4 _ _ _
      | exact ih5 _ _ _ _
      | exact ih6 _ _ _ _
      | exact LeO.none _
      | refine LeO.ite ?_ ?_
      | refine LeO.bind ?_ (fun _ => ?_)
    · intro y0 y1 y2 y3
      unfold hatstandref3_Rune.j2
      repeat' first
      | (with_reducible exact ih0 _ _ _)
      | (with_reducible exact ih1 _ _ _)
      | (with_reducible exact ih2 _ _ _ _)
      | (with_reducible exact ih3 _ _ _ _)
      | (with_reducible exact ih4 _ _ _)
      | (with_reducible exact ih5 _ _ _ _)
      | (with_reducible exact ih6 _ _ _ _)
      | (with_reducible exact LeO.refl _)
      | (with_reducible exact LeO.none _)
      | (with_reducible refine LeO.ite ?_ ?_)
      | (with_reducible refine LeO.bind ?_ (fun _ => ?_))
      | exact ih0 _ _ _
      | exact ih1 _ _ _
      | exact ih2 _ _ _ _
      | exact ih3 _ _ _ _
      | exact ih4 _ _ _
      | exact ih5 _ _ _ _
      | exact ih6 _ _ _ _
      | exact LeO.none _
      | refine LeO.ite ?_ ?_
      | refine LeO.bind ?_ (fun _ => ?_)
    · intro y0 y1 y2 y3
      unfold hatstandref3_Rune.j3
      repeat' first
      | (with_reducible exact ih0 _ _ _)
      | (with_reducible exact ih1 _ _ _)
      | (with_reducible exact ih2 _ _ _ _)
      | (with_reducible exact ih3 _ _ _ _)
      | (with_reducible exact ih4 _ _ _)
      | (with_reducible exact ih5 _ _ _ _)
      | (with_reducible exact ih6 _ _ _ _)
      | (with_reducible exact LeO.refl _)
      | (with_reducible exact LeO.none _)
      | (with_reducible refine LeO.ite ?_ ?_)
      | (with_reducible refine LeO.bind ?_ (fun _ => ?_))
      | exact ih0 _ _ _
      | exact ih1 _ _ _
      | exact ih2 _ _ _ _
      | exact ih3 _ _ _ _
      | exact ih4 _ _ _
      | exact ih5 _ _ _ _
      | exact ih6 _ _ _ _
      | exact LeO.none _
      | refine LeO.ite ?_ ?_
      | refine LeO.bind ?_ (fun _ => ?_)
    · intro y0 y1 y2
      unfold hatstandref3_Rune.j4
      repeat' first
      | (with_reducible exact ih0 _ _ _)
      | (with_reducible exact ih1 _ _ _)
      | (with_reducible exact ih2 _ _ _ _)
      | (with_reducible exact ih3 _ _ _ _)
      | (with_reducible exact ih4 _ _ _)
      | (with_reducible exact ih5 _ _ _ _)
      | (with_reducible exact ih6 _ _ _ _)
      | (with_reducible exact LeO.refl _)
      | (with_reducible exact LeO.none _)
      | (with_reducible refine LeO.ite ?_ ?_)
      | (with_reducible refine LeO.bind ?_ (fun _ => ?_))
      | exact ih0 _ _ _
      | exact ih1 _ _ _
      | exact ih2 _ _ _ _
      | exact ih3 _ _ _ _
      | exact ih4 _ _ _
      | exact ih5 _ _ _ _
      | exact ih6 _ _ _ _
      | exact LeO.none _
      | refine LeO.ite ?_ ?_
      | refine LeO.bind ?_ (fun _ => ?_)
    · intro y0 y1 y2 y3
      unfold hatstandref3_Rune.j5
      repeat' first
      | (with_reducible exact ih0 _ _ _)
      | (with_reducible exact ih1 _ _ _)
      | (with_reducible exact ih2 _ _ _ _)
      | (with_reducible exact ih3 _ _ _ _)
      | (with_reducible exact ih4 _ _ _)
      | (with_reducible exact ih5 _ _ _ _)
      | (with_reducible exact ih6 _ _ _ _)
      | (with_reducible exact LeO.refl _)
      | (with_reducible exact LeO.none _)
      | (with_reducible refine LeO.ite ?_ ?_)
      | (with_reducible refine LeO.bind ?_ (fun _ => ?_))
      | exact ih0 _ _ _
      | exact ih1 _ _ _
      | exact ih2 _ _ _ _
      | exact ih3 _ _ _ _
      | exact ih4 _ _ _
      | exact ih5 _ _ _ _
      | exact ih6 _ _ _ _
      | exact LeO.none _
      | refine LeO.ite ?_ ?_
      | refine LeO.bind ?_ (fun _ => ?_)
    · intro y0 y1 y2 y3
      unfold hatstandref3_Rune.j6
      repeat' first
      | (with_reducible exact ih0 _ _ _)
      | (with_reducible exact ih1 _ _ _)
      | (with_reducible exact ih2 _ _ _ _)
      | (with_reducible exact ih3 _ _ _ _)
      | (with_reducible exact ih4 _ _ _)
      | (with_reducible exact ih5 _ _ _ _)
      | (with_reducible exact ih6 _ _ _ _)
      | (with_reducible exact LeO.refl _)
      | (with_reducible exact LeO.none _)
      | (with_reducible refine LeO.ite ?_ ?_)
      | (with_reducible refine LeO.bind ?_ (fun _ => ?_))
      | exact ih0 _ _ _
      | exact ih1 _ _ _
      | exact ih2 _ _ _ _
      | exact ih3 _ _ _ _
      | exact ih4 _ _ _
      | exact ih5 _ _ _ _
      | exact ih6 _ _ _ _
      | exact LeO.none _
      | refine LeO.ite ?_ ?_
      | refine LeO.bind ?_ (fun _ => ?_)
theorem hatstandref3_Rune.mono : ∀ a0 k, LeO (hatstandref3_Rune.f k a0) (hatstandref3_Rune.f (k + 1) a0) := by
  intro a0 k
  obtain ⟨ih0, ih1, ih2, ih3, ih4, ih5, ih6⟩ := hatstandref3_Rune.mono_l k
  unfold hatstandref3_Rune.f
  repeat' first
      | (with_reducible exact ih0 _ _ _)
      | (with_reducible exact ih1 _ _ _)
      | (with_reducible exact ih2 _ _ _ _)
      | (with_reducible exact ih3 _ _ _ _)
      | (with_reducible exact ih4 _ _ _)
      | (with_reducible exact ih5 _ _ _ _)
      | (with_reducible exact ih6 _ _ _ _)
      | (with_reducible exact LeO.refl _)
      | (with_reducible exact LeO.none _)
      | (with_reducible refine LeO.ite ?_ ?_)
      | (with_reducible refine LeO.bind ?_ (fun _ => ?_))
      | exact ih0 _ _ _
      | exact ih1 _ _ _
      | exact ih2 _ _ _ _
      | exact ih3 _ _ _ _
      | exact ih4 _ _ _
      | exact ih5 _ _ _ _
      | exact ih6 _ _ _ _
      | exact LeO.none _
      | refine LeO.ite ?_ ?_
      | refine LeO.bind ?_ (fun _ => ?_)
set_option maxHeartbeats 8000000 in
set_option maxRecDepth 100000 in
theorem hatstandref3_Rune.calls (k : Nat) (a0 : ByteArray) (r1 : Int) (r2 : Int) (w : World) (h : hatstandref3_Rune.f k a0 = some (r1, r2)) :
    Calls Tryd.prog 32 #[.string a0] w fun e w' => e = .returned (.tuple #[.int .i64 r1, .int .i64 r2]) ∧ Drawn0 w w' := by
  have H : (if 0 < (a0.size : Int) then (if (bt a0 0) < 128 then (some (wrap64 (bt a0 0), 1)) else (if (bt a0 0) ≥ 194 then (if (bt a0 0) ≤ 223 then ((hatstandref3_next.f a0 1 128 191).bind fun t211 => (hatstandref3_Rune.j0 k a0 (bt a0 0) t211)) else (hatstandref3_Rune.j0 k a0 (bt a0 0) false)) else (hatstandref3_Rune.j0 k a0 (bt a0 0) false))) else (none)) = some (r1, r2) := h
  clear h
  by_cases c2 : 0 < (a0.size : Int)
  · rw [if_pos c2] at H
    have c2b0 : decide (0 < (a0.size : Int)) = true := decide_eq_true c2
    have c2b1 : decide (0 < a0.size) = true := decide_eq_true (by omega)
    clear c2
    by_cases c4 : (bt a0 0) < 128
    · rw [if_pos c4] at H
      have c4b0 : decide ((bt a0 0) < 128) = true := decide_eq_true c4
      clear c4
      simp only [Option.some.injEq, Prod.mk.injEq] at H
      obtain ⟨rfl, rfl⟩ := H
      have p3 : 0 ≤ (0 : Int) := (by omega)
      have q3 : 0 < a0.size := (by have : (0 : Int) < (a0.size : Int) := of_decide_eq_true (by first | (with_reducible assumption) | assumption); omega)
      have hx3 : ∀ h : 0 < a0.size, ((a0[0]'h).toNat : Int) = bt a0 0 := bt_at a0 0
      clear p3
      have qi3 : (0 < (a0.size : Int)) = True := eq_true (of_decide_eq_true (by first | (with_reducible assumption) | assumption))
      replace q3 := eq_true q3
      go_enter Tryd.func32, Tryd.ntmps32
      go_wp2
      repeat (go_quiet (fail); try go_wp2)
      go_ret2
      exact ⟨by first | rfl | (simp; done) | (simp [*]; done) | exact isEmpty_bne _, by repeat (first | exact Drawn0.refl _ | apply Drawn0.step)⟩
    · rw [if_neg c4] at H
      have c4b0 : decide ((bt a0 0) < 128) = false := decide_eq_false c4
      clear c4
      have HC5 := Aside0.mk H
      clear H
      have p3 : 0 ≤ (0 : Int) := (by omega)
      have q3 : 0 < a0.size := (by have : (0 : Int) < (a0.size : Int) := of_decide_eq_true (by first | (with_reducible assumption) | assumption); omega)
      have hx3 : ∀ h : 0 < a0.size, ((a0[0]'h).toNat : Int) = bt a0 0 := bt_at a0 0
      clear p3
      have qi3 : (0 < (a0.size : Int)) = True := eq_true (of_decide_eq_true (by first | (with_reducible assumption) | assumption))
      replace q3 := eq_true q3
      go_enter Tryd.func32, Tryd.ntmps32
      go_upto_region 4 with (fail)
      repeat (go_quiet (fail); go_upto_region 4 with (fail))
      go_cut [16] (fun v16 wc => ∃ (kq : Nat) (x16_4 : Bool), v16 = .bool x16_4 ∧ Aside0 (hatstandref3_Rune.j0 kq a0 (bt a0 0) x16_4 = some (r1, r2)) ∧ Aside0 (kq ≤ k) ∧ Drawn0 w wc)
      case first =>
        have H := HC5.out
        clear HC5
        by_cases c6 : (bt a0 0) ≥ 194
        · rw [if_pos c6] at H
          have c6b0 : decide (194 ≤ (bt a0 0)) = true := decide_eq_true c6
          clear c6
          (first | rw [c6b0] | (simp only [i64_w, i32_w]; rw [c6b0]) | skip)
          by_cases c7 : (bt a0 0) ≤ 223
          · rw [if_pos c7] at H
            have c7b0 : decide ((bt a0 0) ≤ 223) = true := decide_eq_true c7
            clear c7
            replace H := Option.bind_eq_some_iff.mp H
            obtain ⟨t211, A80, H⟩ := H
            replace H : (hatstandref3_Rune.j0 k a0 (bt a0 0) t211) = some (r1, r2) := H
            have A8 := Aside0.mk A80
            clear A80
            have H' := Aside0.mk H
            clear H
            go_wp2_with (first | (go_at_call 40; (with_reducible refine (hatstandref3_next.calls a0 1 128 191 t211 _ A8.out).mono ?_); rintro e w' ⟨rfl, ⟨nd, rfl⟩⟩; (try first | exact ⟨rfl, _, World.drewN_drewN _ _ _⟩ | exact ⟨rfl, _, Eq.trans (World.drewN_drewN _ _ _) (congrArg (World.drewN _) (Nat.add_assoc _ _ _))⟩)))
            repeat (go_quiet (first | (go_at_call 40; (with_reducible refine (hatstandref3_next.calls a0 1 128 191 t211 _ A8.out).mono ?_); rintro e w' ⟨rfl, ⟨nd, rfl⟩⟩; (try first | exact ⟨rfl, _, World.drewN_drewN _ _ _⟩ | exact ⟨rfl, _, Eq.trans (World.drewN_drewN _ _ _) (congrArg (World.drewN _) (Nat.add_assoc _ _ _))⟩))); try go_wp2_with (first | (go_at_call 40; (with_reducible refine (hatstandref3_next.calls a0 1 128 191 t211 _ A8.out).mono ?_); rintro e w' ⟨rfl, ⟨nd, rfl⟩⟩; (try first | exact ⟨rfl, _, World.drewN_drewN _ _ _⟩ | exact ⟨rfl, _, Eq.trans (World.drewN_drewN _ _ _) (congrArg (World.drewN _) (Nat.add_assoc _ _ _))⟩))))
            go_meet
            case rel => exact ⟨_, (t211), (by first | rfl | (simp; done) | (simp [*]; done) | exact isEmpty_bne _), H', ⟨by first | omega | exact Nat.le_refl _⟩, by repeat (first | exact Drawn0.refl _ | apply Drawn0.step)⟩
          · rw [if_neg c7] at H
            have c7b0 : decide ((bt a0 0) ≤ 223) = false := decide_eq_false c7
            clear c7
            have H' := Aside0.mk H
            clear H
            go_wp2
            repeat (go_quiet (fail); try go_wp2)
            go_meet
            case rel => exact ⟨_, (false), (by first | rfl | (simp; done) | (simp [*]; done) | exact isEmpty_bne _), H', ⟨by first | omega | exact Nat.le_refl _⟩, by repeat (first | exact Drawn0.refl _ | apply Drawn0.step)⟩
        · rw [if_neg c6] at H
          have c6b0 : decide (194 ≤ (bt a0 0)) = false := decide_eq_false c6
          clear c6
          (first | rw [c6b0] | (simp only [i64_w, i32_w]; rw [c6b0]) | skip)
          have H' := Aside0.mk H
          clear H
          go_wp2
          repeat (go_quiet (fail); try go_wp2)
          go_meet
          case rel => exact ⟨_, (false), (by first | rfl | (simp; done) | (simp [*]; done) | exact isEmpty_bne _), H', ⟨by first | omega | exact Nat.le_refl _⟩, by repeat (first | exact Drawn0.refl _ | apply Drawn0.step)⟩
      case rest =>
        clear HC5
        try clear c2
        try clear c2b0
        try clear c2b1
        try clear p2
        try clear c3
        try clear p3
        try clear q3
        try clear hx3
        try clear qi3
        try clear c4
        try clear c4b0
        try clear c6
        try clear c6b0
        try clear p6
        try clear c7
        try clear c7b0
        try clear p3
        try clear q3
        obtain ⟨kq, x16_4, rfl, HA, HJ4, ⟨mc4, rfl⟩⟩ := hcut
        cases kq with
        | zero => exact absurd HA.out (by simp [hatstandref3_Rune.j0])
        | succ kj4 =>
          have H := HA.out
          clear HA
          simp only [hatstandref3_Rune.j0] at H
          by_cases c9 : x16_4 = true
          · subst c9
            have H1 : (if 1 < (a0.size : Int) then (some (((((bt a0 0) - 192) % 256) * 64) + (((bt a0 1) - 128) % 256), 2)) else (none)) = some (r1, r2) := by rw [if_pos rfl] at H; exact H
            clear H
            have H := H1
            clear H1
            by_cases c10 : 1 < (a0.size : Int)
            · rw [if_pos c10] at H
              have c10b0 : decide (1 < (a0.size : Int)) = true := decide_eq_true c10
              have c10b1 : decide (1 < a0.size) = true := decide_eq_true (by omega)
              clear c10
              simp only [Option.some.injEq, Prod.mk.injEq] at H
              obtain ⟨rfl, rfl⟩ := H
              have p11 : 0 ≤ (1 : Int) := (by omega)
              have q11 : 1 < a0.size := (by have : (1 : Int) < (a0.size : Int) := of_decide_eq_true (by first | (with_reducible assumption) | assumption); omega)
              have hx11 : ∀ h : 1 < a0.size, ((a0[1]'h).toNat : Int) = bt a0 1 := bt_at a0 1
              clear p11
              have qi11 : (1 < (a0.size : Int)) = True := eq_true (of_decide_eq_true (by first | (with_reducible assumption) | assumption))
              replace q11 := eq_true q11
              go_wp2
              repeat (go_quiet (fail); try go_wp2)
              go_ret2
              exact ⟨by first | rfl | (simp; done) | (simp [*]; done) | exact isEmpty_bne _, by repeat (first | exact Drawn0.refl _ | apply Drawn0.step)⟩
            · rw [if_neg c10] at H
              exact absurd H (by simp)
          · replace c9 := Bool.eq_false_iff.mpr c9
            subst c9
            have H1 : (if (bt a0 0) ≥ 224 then (hatstandref3_Rune.j1 kj4 a0 (bt a0 0) (decide ((bt a0 0) ≤ 239))) else (hatstandref3_Rune.j1 kj4 a0 (bt a0 0) false)) = some (r1, r2) := by rw [if_neg (show ¬ (false = true) by decide)] at H; exact H
            clear H
            have H := H1
            clear H1
            have HC12 := Aside0.mk H
            clear H
            go_upto_region 6 with (fail)
            repeat (go_quiet (fail); go_upto_region 6 with (fail))
            go_cut [36] (fun v36 wc => ∃ (kq : Nat) (x36_11 : Bool), v36 = .bool x36_11 ∧ Aside0 (hatstandref3_Rune.j1 kq a0 (bt a0 0) x36_11 = some (r1, r2)) ∧ Aside0 (kq ≤ kj4) ∧ Drawn0 w wc)
            case first =>
              have H := HC12.out
              clear HC12
              by_cases c13 : (bt a0 0) ≥ 224
              · rw [if_pos c13] at H
                have c13b0 : decide (224 ≤ (bt a0 0)) = true := decide_eq_true c13
                clear c13
                (first | rw [c13b0] | (simp only [i64_w, i32_w]; rw [c13b0]) | skip)
                have H' := Aside0.mk H
                clear H
                go_wp2
                repeat (go_quiet (fail); try go_wp2)
                go_meet
                case rel => exact ⟨_, (decide ((bt a0 0) ≤ 239)), (by first | rfl | (simp; done) | (simp [*]; done) | exact isEmpty_bne _), H', ⟨by have := HJ4.out; first | omega | exact Nat.le_refl _⟩, by repeat (first | exact Drawn0.refl _ | apply Drawn0.step)⟩
              · rw [if_neg c13] at H
                have c13b0 : decide (224 ≤ (bt a0 0)) = false := decide_eq_false c13
                clear c13
                (first | rw [c13b0] | (simp only [i64_w, i32_w]; rw [c13b0]) | skip)
                have H' := Aside0.mk H
                clear H
                go_wp2
                repeat (go_quiet (fail); try go_wp2)
                go_meet
                case rel => exact ⟨_, (false), (by first | rfl | (simp; done) | (simp [*]; done) | exact isEmpty_bne _), H', ⟨by have := HJ4.out; first | omega | exact Nat.le_refl _⟩, by repeat (first | exact Drawn0.refl _ | apply Drawn0.step)⟩
            case rest =>
              clear HC12
              try clear c1
              try clear p1
              try clear q1
              try clear hx1
              try clear qi1
              try clear c2
              try clear c2b0
              try clear c2b1
              try clear p2
              try clear c3
              try clear p3
              try clear q3
              try clear hx3
              try clear qi3
              try clear c4
              try clear c4b0
              try clear c6
              try clear c6b0
              try clear p6
              try clear c7
              try clear c7b0
              try clear c9
              try clear c10
              try clear c10b0
              try clear c10b1
              try clear p11
              try clear q11
              try clear hx11
              try clear qi11
              try clear c13
              try clear c13b0
              try clear p11
              try clear p2
              try clear p3
              try clear p6
              try clear q11
              try clear q3
              obtain ⟨kq, x36_11, rfl, HA, HJ11, ⟨mc11, rfl⟩⟩ := hcut
              cases kq with
              | zero => exact absurd HA.out (by simp [hatstandref3_Rune.j1])
              | succ kj11 =>
                have H := HA.out
                clear HA
                simp only [hatstandref3_Rune.j1] at H
                by_cases c14 : x36_11 = true
                · subst c14
                  have H1 : (if (bt a0 0) = 224 then (hatstandref3_Rune.j2 kj11 a0 (bt a0 0) 160 191) else (hatstandref3_Rune.j2 kj11 a0 (bt a0 0) 128 191)) = some (r1, r2) := by rw [if_pos rfl] at H; exact H
                  clear H
                  have H := H1
                  clear H1
                  have HC15 := Aside0.mk H
                  clear H
                  go_upto_if 44 with (fail)
                  repeat (go_quiet (fail); go_upto_if 44 with (fail))
                  go_cut [5] (fun v5 wc => ∃ (kq : Nat) (x5_14 : Int), v5 = .int .u8 x5_14 ∧ Aside0 (hatstandref3_Rune.j2 kq a0 (bt a0 0) x5_14 191 = some (r1, r2)) ∧ Aside0 (kq ≤ kj11) ∧ Drawn0 w wc)
                  case first =>
                    have H := HC15.out
                    clear HC15
                    by_cases c16 : (bt a0 0) = 224
                    · rw [if_pos c16] at H
                      have c16b0 : ((bt a0 0) == 224) = true := beq_iff_eq.mpr c16
                      have c16b1 : ((bt a0 0) != 224) = false := bne_eq_false_iff_eq.mpr c16
                      clear c16
                      (first | rw [c16b0] | (simp only [i64_w, i32_w]; rw [c16b0]) | skip)
                      have H' := Aside0.mk H
                      clear H
                      go_wp2
                      repeat (go_quiet (fail); try go_wp2)
                      go_meet
                      case rel => exact ⟨_, (160), (by first | rfl | (simp; done) | (simp [*]; done) | exact isEmpty_bne _), H', ⟨by have := HJ4.out; have := HJ11.out; first | omega | exact Nat.le_refl _⟩, by repeat (first | exact Drawn0.refl _ | apply Drawn0.step)⟩
                    · rw [if_neg c16] at H
                      have c16b0 : ((bt a0 0) == 224) = false := beq_eq_false_iff_ne.mpr c16
                      have c16b1 : ((bt a0 0) != 224) = true := bne_iff_ne.mpr c16
                      (first | rw [c16b0] | (simp only [i64_w, i32_w]; rw [c16b0]) | skip)
                      have H' := Aside0.mk H
                      clear H
                      go_wp2
                      repeat (go_quiet (fail); try go_wp2)
                      go_meet
                      case rel => exact ⟨_, (128), (by first | rfl | (simp; done) | (simp [*]; done) | exact isEmpty_bne _), H', ⟨by have := HJ4.out; have := HJ11.out; first | omega | exact Nat.le_refl _⟩, by repeat (first | exact Drawn0.refl _ | apply Drawn0.step)⟩
                  case rest =>
                    clear HC15
                    try clear c1
                    try clear p1
                    try clear q1
                    try clear hx1
                    try clear qi1
                    try clear c2
                    try clear c2b0
                    try clear c2b1
                    try clear p2
                    try clear c3
                    try clear p3
                    try clear q3
                    try clear hx3
                    try clear qi3
                    try clear c4
                    try clear c4b0
                    try clear c6
                    try clear c6b0
                    try clear p6
                    try clear c7
                    try clear c7b0
                    try clear c9
                    try clear c10
                    try clear c10b0
                    try clear c10b1
                    try clear c11
                    try clear p11
                    try clear q11
                    try clear hx11
                    try clear qi11
                    try clear c13
                    try clear c13b0
                    try clear c14
                    try clear c16
                    try clear c16b0
                    try clear c16b1
                    try clear p1
                    try clear p11
                    try clear p2
                    try clear p3
                    try clear p6
                    try clear q1
                    try clear q11
                    try clear q3
                    obtain ⟨kq, x5_14, rfl, HA, HJ14, ⟨mc14, rfl⟩⟩ := hcut
                    cases kq with
                    | zero => exact absurd HA.out (by simp [hatstandref3_Rune.j2])
                    | succ kj14 =>
                      have H := HA.out
                      clear HA
                      simp only [hatstandref3_Rune.j2] at H
                      have HC17 := Aside0.mk H
                      clear H
                      go_upto_if 46 with (fail)
                      repeat (go_quiet (fail); go_upto_if 46 with (fail))
                      go_cut [6] (fun v6 wc => ∃ (kq : Nat) (x6_16 : Int), v6 = .int .u8 x6_16 ∧ Aside0 (hatstandref3_Rune.j3 kq a0 (bt a0 0) x5_14 x6_16 = some (r1, r2)) ∧ Aside0 (kq ≤ kj14) ∧ Drawn0 w wc)
                      case first =>
                        have H := HC17.out
                        clear HC17
                        by_cases c18 : (bt a0 0) = 237
                        · rw [if_pos c18] at H
                          have c18b0 : ((bt a0 0) == 237) = true := beq_iff_eq.mpr c18
                          have c18b1 : ((bt a0 0) != 237) = false := bne_eq_false_iff_eq.mpr c18
                          clear c18
                          (first | rw [c18b0] | (simp only [i64_w, i32_w]; rw [c18b0]) | skip)
                          have H' := Aside0.mk H
                          clear H
                          go_wp2
                          repeat (go_quiet (fail); try go_wp2)
                          go_meet
                          case rel => exact ⟨_, (159), (by first | rfl | (simp; done) | (simp [*]; done) | exact isEmpty_bne _), H', ⟨by have := HJ4.out; have := HJ11.out; have := HJ14.out; first | omega | exact Nat.le_refl _⟩, by repeat (first | exact Drawn0.refl _ | apply Drawn0.step)⟩
                        · rw [if_neg c18] at H
                          have c18b0 : ((bt a0 0) == 237) = false := beq_eq_false_iff_ne.mpr c18
                          have c18b1 : ((bt a0 0) != 237) = true := bne_iff_ne.mpr c18
                          (first | rw [c18b0] | (simp only [i64_w, i32_w]; rw [c18b0]) | skip)
                          have H' := Aside0.mk H
                          clear H
                          go_wp2
                          repeat (go_quiet (fail); try go_wp2)
                          go_meet
                          case rel => exact ⟨_, (191), (by first | rfl | (simp; done) | (simp [*]; done) | exact isEmpty_bne _), H', ⟨by have := HJ4.out; have := HJ11.out; have := HJ14.out; first | omega | exact Nat.le_refl _⟩, by repeat (first | exact Drawn0.refl _ | apply Drawn0.step)⟩
                      case rest =>
                        clear HC17
                        try clear c1
                        try clear p1
                        try clear q1
                        try clear hx1
                        try clear qi1
                        try clear c2
                        try clear c2b0
                        try clear c2b1
                        try clear p2
                        try clear c3
                        try clear p3
                        try clear q3
                        try clear hx3
                        try clear qi3
                        try clear c4
                        try clear c4b0
                        try clear c6
                        try clear c6b0
                        try clear p6
                        try clear c7
                        try clear c7b0
                        try clear c9
                        try clear c10
                        try clear c10b0
                        try clear c10b1
                        try clear c11
                        try clear p11
                        try clear q11
                        try clear hx11
                        try clear qi11
                        try clear c13
                        try clear c13b0
                        try clear c14
                        try clear c16
                        try clear c16b0
                        try clear c16b1
                        try clear c18
                        try clear c18b0
                        try clear c18b1
                        try clear p1
                        try clear p11
                        try clear p2
                        try clear p3
                        try clear p6
                        try clear q1
                        try clear q11
                        try clear q3
                        obtain ⟨kq, x6_16, rfl, HA, HJ16, ⟨mc16, rfl⟩⟩ := hcut
                        cases kq with
                        | zero => exact absurd HA.out (by simp [hatstandref3_Rune.j3])
                        | succ kj16 =>
                          have H := HA.out
                          clear HA
                          simp only [hatstandref3_Rune.j3] at H
                          replace H := Option.bind_eq_some_iff.mp H
                          obtain ⟨t212, A190, H⟩ := H
                          replace H : (if t212 = true then ((hatstandref3_next.f a0 2 128 191).bind fun t213 => (if t213 = true then (if 1 < (a0.size : Int) then (if 2 < (a0.size : Int) then (some ((((((bt a0 0) - 224) % 256) * 4096) + ((((bt a0 1) - 128) % 256) * 64)) + (((bt a0 2) - 128) % 256), 3)) else (none)) else (none)) else (some (65533, 1)))) else (some (65533, 1))) = some (r1, r2) := H
                          have A19 := Aside0.mk A190
                          clear A190
                          by_cases c20 : t212 = true
                          · subst c20
                            have H1 : ((hatstandref3_next.f a0 2 128 191).bind fun t213 => (if t213 = true then (if 1 < (a0.size : Int) then (if 2 < (a0.size : Int) then (some ((((((bt a0 0) - 224) % 256) * 4096) + ((((bt a0 1) - 128) % 256) * 64)) + (((bt a0 2) - 128) % 256), 3)) else (none)) else (none)) else (some (65533, 1)))) = some (r1, r2) := by rw [if_pos rfl] at H; exact H
                            clear H
                            have H := H1
                            clear H1
                            replace H := Option.bind_eq_some_iff.mp H
                            obtain ⟨t213, A210, H⟩ := H
                            replace H : (if t213 = true then (if 1 < (a0.size : Int) then (if 2 < (a0.size : Int) then (some ((((((bt a0 0) - 224) % 256) * 4096) + ((((bt a0 1) - 128) % 256) * 64)) + (((bt a0 2) - 128) % 256), 3)) else (none)) else (none)) else (some (65533, 1))) = some (r1, r2) := H
                            have A21 := Aside0.mk A210
                            clear A210
                            by_cases c22 : t213 = true
                            · subst c22
                              have H1 : (if 1 < (a0.size : Int) then (if 2 < (a0.size : Int) then (some ((((((bt a0 0) - 224) % 256) * 4096) + ((((bt a0 1) - 128) % 256) * 64)) + (((bt a0 2) - 128) % 256), 3)) else (none)) else (none)) = some (r1, r2) := by rw [if_pos rfl] at H; exact H
                              clear H
                              have H := H1
                              clear H1
                              by_cases c23 : 1 < (a0.size : Int)
                              · rw [if_pos c23] at H
                                have c23b0 : decide (1 < (a0.size : Int)) = true := decide_eq_true c23
                                have c23b1 : decide (1 < a0.size) = true := decide_eq_true (by omega)
                                clear c23
                                by_cases c25 : 2 < (a0.size : Int)
                                · rw [if_pos c25] at H
                                  have c25b0 : decide (2 < (a0.size : Int)) = true := decide_eq_true c25
                                  have c25b1 : decide (2 < a0.size) = true := decide_eq_true (by omega)
                                  clear c25
                                  simp only [Option.some.injEq, Prod.mk.injEq] at H
                                  obtain ⟨rfl, rfl⟩ := H
                                  go_wp2_with (first | (go_at_call 40; (with_reducible refine (hatstandref3_next.calls a0 1 x5_14 x6_16 true _ A19.out).mono ?_); rintro e w' ⟨rfl, ⟨nd, rfl⟩⟩; (try first | exact ⟨rfl, _, World.drewN_drewN _ _ _⟩ | exact ⟨rfl, _, Eq.trans (World.drewN_drewN _ _ _) (congrArg (World.drewN _) (Nat.add_assoc _ _ _))⟩)) | (go_at_call 40; (with_reducible refine (hatstandref3_next.calls a0 2 128 191 true _ A21.out).mono ?_); rintro e w' ⟨rfl, ⟨nd, rfl⟩⟩; (try first | exact ⟨rfl, _, World.drewN_drewN _ _ _⟩ | exact ⟨rfl, _, Eq.trans (World.drewN_drewN _ _ _) (congrArg (World.drewN _) (Nat.add_assoc _ _ _))⟩); have p24 : 0 ≤ (1 : Int) := (by omega); have q24 : 1 < a0.size := (by have : (1 : Int) < (a0.size : Int) := of_decide_eq_true (by first | (with_reducible assumption) | assumption); omega); have hx24 : ∀ h : 1 < a0.size, ((a0[1]'h).toNat : Int) = bt a0 1 := bt_at a0 1; clear p24; have qi24 : (1 < (a0.size : Int)) = True := eq_true (of_decide_eq_true (by first | (with_reducible assumption) | assumption)); replace q24 := eq_true q24; have p26 : 0 ≤ (2 : Int) := (by omega); have q26 : 2 < a0.size := (by have : (2 : Int) < (a0.size : Int) := of_decide_eq_true (by first | (with_reducible assumption) | assumption); omega); have hx26 : ∀ h : 2 < a0.size, ((a0[2]'h).toNat : Int) = bt a0 2 := bt_at a0 2; clear p26; have qi26 : (2 < (a0.size : Int)) = True := eq_true (of_decide_eq_true (by first | (with_reducible assumption) | assumption)); replace q26 := eq_true q26))
                                  repeat (go_quiet (first | (go_at_call 40; (with_reducible refine (hatstandref3_next.calls a0 1 x5_14 x6_16 true _ A19.out).mono ?_); rintro e w' ⟨rfl, ⟨nd, rfl⟩⟩; (try first | exact ⟨rfl, _, World.drewN_drewN _ _ _⟩ | exact ⟨rfl, _, Eq.trans (World.drewN_drewN _ _ _) (congrArg (World.drewN _) (Nat.add_assoc _ _ _))⟩)) | (go_at_call 40; (with_reducible refine (hatstandref3_next.calls a0 2 128 191 true _ A21.out).mono ?_); rintro e w' ⟨rfl, ⟨nd, rfl⟩⟩; (try first | exact ⟨rfl, _, World.drewN_drewN _ _ _⟩ | exact ⟨rfl, _, Eq.trans (World.drewN_drewN _ _ _) (congrArg (World.drewN _) (Nat.add_assoc _ _ _))⟩); have p24 : 0 ≤ (1 : Int) := (by omega); have q24 : 1 < a0.size := (by have : (1 : Int) < (a0.size : Int) := of_decide_eq_true (by first | (with_reducible assumption) | assumption); omega); have hx24 : ∀ h : 1 < a0.size, ((a0[1]'h).toNat : Int) = bt a0 1 := bt_at a0 1; clear p24; have qi24 : (1 < (a0.size : Int)) = True := eq_true (of_decide_eq_true (by first | (with_reducible assumption) | assumption)); replace q24 := eq_true q24; have p26 : 0 ≤ (2 : Int) := (by omega); have q26 : 2 < a0.size := (by have : (2 : Int) < (a0.size : Int) := of_decide_eq_true (by first | (with_reducible assumption) | assumption); omega); have hx26 : ∀ h : 2 < a0.size, ((a0[2]'h).toNat : Int) = bt a0 2 := bt_at a0 2; clear p26; have qi26 : (2 < (a0.size : Int)) = True := eq_true (of_decide_eq_true (by first | (with_reducible assumption) | assumption)); replace q26 := eq_true q26)); try go_wp2_with (first | (go_at_call 40; (with_reducible refine (hatstandref3_next.calls a0 1 x5_14 x6_16 true _ A19.out).mono ?_); rintro e w' ⟨rfl, ⟨nd, rfl⟩⟩; (try first | exact ⟨rfl, _, World.drewN_drewN _ _ _⟩ | exact ⟨rfl, _, Eq.trans (World.drewN_drewN _ _ _) (congrArg (World.drewN _) (Nat.add_assoc _ _ _))⟩)) | (go_at_call 40; (with_reducible refine (hatstandref3_next.calls a0 2 128 191 true _ A21.out).mono ?_); rintro e w' ⟨rfl, ⟨nd, rfl⟩⟩; (try first | exact ⟨rfl, _, World.drewN_drewN _ _ _⟩ | exact ⟨rfl, _, Eq.trans (World.drewN_drewN _ _ _) (congrArg (World.drewN _) (Nat.add_assoc _ _ _))⟩); have p24 : 0 ≤ (1 : Int) := (by omega); have q24 : 1 < a0.size := (by have : (1 : Int) < (a0.size : Int) := of_decide_eq_true (by first | (with_reducible assumption) | assumption); omega); have hx24 : ∀ h : 1 < a0.size, ((a0[1]'h).toNat : Int) = bt a0 1 := bt_at a0 1; clear p24; have qi24 : (1 < (a0.size : Int)) = True := eq_true (of_decide_eq_true (by first | (with_reducible assumption) | assumption)); replace q24 := eq_true q24; have p26 : 0 ≤ (2 : Int) := (by omega); have q26 : 2 < a0.size := (by have : (2 : Int) < (a0.size : Int) := of_decide_eq_true (by first | (with_reducible assumption) | assumption); omega); have hx26 : ∀ h : 2 < a0.size, ((a0[2]'h).toNat : Int) = bt a0 2 := bt_at a0 2; clear p26; have qi26 : (2 < (a0.size : Int)) = True := eq_true (of_decide_eq_true (by first | (with_reducible assumption) | assumption)); replace q26 := eq_true q26)))
                                  go_ret2
                                  exact ⟨by first | rfl | (simp; done) | (simp [*]; done) | exact isEmpty_bne _, by repeat (first | exact Drawn0.refl _ | apply Drawn0.step)⟩
                                · rw [if_neg c25] at H
                                  exact absurd H (by simp)
                              · rw [if_neg c23] at H
                                exact absurd H (by simp)
                            · replace c22 := Bool.eq_false_iff.mpr c22
                              subst c22
                              have H1 : (some (65533, 1)) = some (r1, r2) := by rw [if_neg (show ¬ (false = true) by decide)] at H; exact H
                              clear H
                              have H := H1
                              clear H1
                              simp only [Option.some.injEq, Prod.mk.injEq] at H
                              obtain ⟨rfl, rfl⟩ := H
                              go_wp2_with (first | (go_at_call 40; (with_reducible refine (hatstandref3_next.calls a0 1 x5_14 x6_16 true _ A19.out).mono ?_); rintro e w' ⟨rfl, ⟨nd, rfl⟩⟩; (try first | exact ⟨rfl, _, World.drewN_drewN _ _ _⟩ | exact ⟨rfl, _, Eq.trans (World.drewN_drewN _ _ _) (congrArg (World.drewN _) (Nat.add_assoc _ _ _))⟩)) | (go_at_call 40; (with_reducible refine (hatstandref3_next.calls a0 2 128 191 false _ A21.out).mono ?_); rintro e w' ⟨rfl, ⟨nd, rfl⟩⟩; (try first | exact ⟨rfl, _, World.drewN_drewN _ _ _⟩ | exact ⟨rfl, _, Eq.trans (World.drewN_drewN _ _ _) (congrArg (World.drewN _) (Nat.add_assoc _ _ _))⟩)))
                              repeat (go_quiet (first | (go_at_call 40; (with_reducible refine (hatstandref3_next.calls a0 1 x5_14 x6_16 true _ A19.out).mono ?_); rintro e w' ⟨rfl, ⟨nd, rfl⟩⟩; (try first | exact ⟨rfl, _, World.drewN_drewN _ _ _⟩ | exact ⟨rfl, _, Eq.trans (World.drewN_drewN _ _ _) (congrArg (World.drewN _) (Nat.add_assoc _ _ _))⟩)) | (go_at_call 40; (with_reducible refine (hatstandref3_next.calls a0 2 128 191 false _ A21.out).mono ?_); rintro e w' ⟨rfl, ⟨nd, rfl⟩⟩; (try first | exact ⟨rfl, _, World.drewN_drewN _ _ _⟩ | exact ⟨rfl, _, Eq.trans (World.drewN_drewN _ _ _) (congrArg (World.drewN _) (Nat.add_assoc _ _ _))⟩))); try go_wp2_with (first | (go_at_call 40; (with_reducible refine (hatstandref3_next.calls a0 1 x5_14 x6_16 true _ A19.out).mono ?_); rintro e w' ⟨rfl, ⟨nd, rfl⟩⟩; (try first | exact ⟨rfl, _, World.drewN_drewN _ _ _⟩ | exact ⟨rfl, _, Eq.trans (World.drewN_drewN _ _ _) (congrArg (World.drewN _) (Nat.add_assoc _ _ _))⟩)) | (go_at_call 40; (with_reducible refine (hatstandref3_next.calls a0 2 128 191 false _ A21.out).mono ?_); rintro e w' ⟨rfl, ⟨nd, rfl⟩⟩; (try first | exact ⟨rfl, _, World.drewN_drewN _ _ _⟩ | exact ⟨rfl, _, Eq.trans (World.drewN_drewN _ _ _) (congrArg (World.drewN _) (Nat.add_assoc _ _ _))⟩))))
                              go_ret2
                              exact ⟨by first | rfl | (simp; done) | (simp [*]; done) | exact isEmpty_bne _, by repeat (first | exact Drawn0.refl _ | apply Drawn0.step)⟩
                          · replace c20 := Bool.eq_false_iff.mpr c20
                            subst c20
                            have H1 : (some (65533, 1)) = some (r1, r2) := by rw [if_neg (show ¬ (false = true) by decide)] at H; exact H
                            clear H
                            have H := H1
                            clear H1
                            simp only [Option.some.injEq, Prod.mk.injEq] at H
                            obtain ⟨rfl, rfl⟩ := H
                            go_wp2_with (first | (go_at_call 40; (with_reducible refine (hatstandref3_next.calls a0 1 x5_14 x6_16 false _ A19.out).mono ?_); rintro e w' ⟨rfl, ⟨nd, rfl⟩⟩; (try first | exact ⟨rfl, _, World.drewN_drewN _ _ _⟩ | exact ⟨rfl, _, Eq.trans (World.drewN_drewN _ _ _) (congrArg (World.drewN _) (Nat.add_assoc _ _ _))⟩)))
                            repeat (go_quiet (first | (go_at_call 40; (with_reducible refine (hatstandref3_next.calls a0 1 x5_14 x6_16 false _ A19.out).mono ?_); rintro e w' ⟨rfl, ⟨nd, rfl⟩⟩; (try first | exact ⟨rfl, _, World.drewN_drewN _ _ _⟩ | exact ⟨rfl, _, Eq.trans (World.drewN_drewN _ _ _) (congrArg (World.drewN _) (Nat.add_assoc _ _ _))⟩))); try go_wp2_with (first | (go_at_call 40; (with_reducible refine (hatstandref3_next.calls a0 1 x5_14 x6_16 false _ A19.out).mono ?_); rintro e w' ⟨rfl, ⟨nd, rfl⟩⟩; (try first | exact ⟨rfl, _, World.drewN_drewN _ _ _⟩ | exact ⟨rfl, _, Eq.trans (World.drewN_drewN _ _ _) (congrArg (World.drewN _) (Nat.add_assoc _ _ _))⟩))))
                            go_ret2
                            exact ⟨by first | rfl | (simp; done) | (simp [*]; done) | exact isEmpty_bne _, by repeat (first | exact Drawn0.refl _ | apply Drawn0.step)⟩
                · replace c14 := Bool.eq_false_iff.mpr c14
                  subst c14
                  have H1 : (if (bt a0 0) ≥ 240 then (hatstandref3_Rune.j4 kj11 a0 (bt a0 0) (decide ((bt a0 0) ≤ 244))) else (hatstandref3_Rune.j4 kj11 a0 (bt a0 0) false)) = some (r1, r2) := by rw [if_neg (show ¬ (false = true) by decide)] at H; exact H
                  clear H
                  have H := H1
                  clear H1
                  have HC27 := Aside0.mk H
                  clear H
                  go_upto_region 15 with (fail)
                  repeat (go_quiet (fail); go_upto_region 15 with (fail))
                  go_cut [70] (fun v70 wc => ∃ (kq : Nat) (x70_26 : Bool), v70 = .bool x70_26 ∧ Aside0 (hatstandref3_Rune.j4 kq a0 (bt a0 0) x70_26 = some (r1, r2)) ∧ Aside0 (kq ≤ kj11) ∧ Drawn0 w wc)
                  case first =>
                    have H := HC27.out
                    clear HC27
                    by_cases c28 : (bt a0 0) ≥ 240
                    · rw [if_pos c28] at H
                      have c28b0 : decide (240 ≤ (bt a0 0)) = true := decide_eq_true c28
                      clear c28
                      (first | rw [c28b0] | (simp only [i64_w, i32_w]; rw [c28b0]) | skip)
                      have H' := Aside0.mk H
                      clear H
                      go_wp2
                      repeat (go_quiet (fail); try go_wp2)
                      go_meet
                      case rel => exact ⟨_, (decide ((bt a0 0) ≤ 244)), (by first | rfl | (simp; done) | (simp [*]; done) | exact isEmpty_bne _), H', ⟨by have := HJ4.out; have := HJ11.out; first | omega | exact Nat.le_refl _⟩, by repeat (first | exact Drawn0.refl _ | apply Drawn0.step)⟩
                    · rw [if_neg c28] at H
                      have c28b0 : decide (240 ≤ (bt a0 0)) = false := decide_eq_false c28
                      clear c28
                      (first | rw [c28b0] | (simp only [i64_w, i32_w]; rw [c28b0]) | skip)
                      have H' := Aside0.mk H
                      clear H
                      go_wp2
                      repeat (go_quiet (fail); try go_wp2)
                      go_meet
                      case rel => exact ⟨_, (false), (by first | rfl | (simp; done) | (simp [*]; done) | exact isEmpty_bne _), H', ⟨by have := HJ4.out; have := HJ11.out; first | omega | exact Nat.le_refl _⟩, by repeat (first | exact Drawn0.refl _ | apply Drawn0.step)⟩
                  case rest =>
                    clear HC27
                    try clear c1
                    try clear p1
                    try clear q1
                    try clear hx1
                    try clear qi1
                    try clear c2
                    try clear c2b0
                    try clear c2b1
                    try clear p2
                    try clear q2
                    try clear hx2
                    try clear qi2
                    try clear c3
                    try clear p3
                    try clear q3
                    try clear hx3
                    try clear qi3
                    try clear c4
                    try clear c4b0
                    try clear c6
                    try clear c6b0
                    try clear p6
                    try clear c7
                    try clear c7b0
                    try clear c9
                    try clear c10
                    try clear c10b0
                    try clear c10b1
                    try clear c11
                    try clear p11
                    try clear q11
                    try clear hx11
                    try clear qi11
                    try clear c13
                    try clear c13b0
                    try clear c14
                    try clear c16
                    try clear c16b0
                    try clear c16b1
                    try clear c18
                    try clear c18b0
                    try clear c18b1
                    try clear c20
                    try clear c22
                    try clear c23
                    try clear c23b0
                    try clear c23b1
                    try clear p24
                    try clear q24
                    try clear hx24
                    try clear qi24
                    try clear c25
                    try clear c25b0
                    try clear c25b1
                    try clear p26
                    try clear q26
                    try clear hx26
                    try clear qi26
                    try clear c28
                    try clear c28b0
                    try clear p1
                    try clear p11
                    try clear p2
                    try clear p24
                    try clear p26
                    try clear p3
                    try clear p6
                    try clear q1
                    try clear q11
                    try clear q24
                    try clear q26
                    try clear q3
                    obtain ⟨kq, x70_26, rfl, HA, HJ26, ⟨mc26, rfl⟩⟩ := hcut
                    cases kq with
                    | zero => exact absurd HA.out (by simp [hatstandref3_Rune.j4])
                    | succ kj26 =>
                      have H := HA.out
                      clear HA
                      simp only [hatstandref3_Rune.j4] at H
                      by_cases c29 : x70_26 = true
                      · subst c29
                        have H1 : (if (bt a0 0) = 240 then (hatstandref3_Rune.j5 kj26 a0 (bt a0 0) 144 191) else (hatstandref3_Rune.j5 kj26 a0 (bt a0 0) 128 191)) = some (r1, r2) := by rw [if_pos rfl] at H; exact H
                        clear H
                        have H := H1
                        clear H1
                        have HC30 := Aside0.mk H
                        clear H
                        go_upto_if 78 with (fail)
                        repeat (go_quiet (fail); go_upto_if 78 with (fail))
                        go_cut [7] (fun v7 wc => ∃ (kq : Nat) (x7_29 : Int), v7 = .int .u8 x7_29 ∧ Aside0 (hatstandref3_Rune.j5 kq a0 (bt a0 0) x7_29 191 = some (r1, r2)) ∧ Aside0 (kq ≤ kj26) ∧ Drawn0 w wc)
                        case first =>
                          have H := HC30.out
                          clear HC30
                          by_cases c31 : (bt a0 0) = 240
                          · rw [if_pos c31] at H
                            have c31b0 : ((bt a0 0) == 240) = true := beq_iff_eq.mpr c31
                            have c31b1 : ((bt a0 0) != 240) = false := bne_eq_false_iff_eq.mpr c31
                            clear c31
                            (first | rw [c31b0] | (simp only [i64_w, i32_w]; rw [c31b0]) | skip)
                            have H' := Aside0.mk H
                            clear H
                            go_wp2
                            repeat (go_quiet (fail); try go_wp2)
                            go_meet
                            case rel => exact ⟨_, (144), (by first | rfl | (simp; done) | (simp [*]; done) | exact isEmpty_bne _), H', ⟨by have := HJ4.out; have := HJ11.out; have := HJ26.out; first | omega | exact Nat.le_refl _⟩, by repeat (first | exact Drawn0.refl _ | apply Drawn0.step)⟩
                          · rw [if_neg c31] at H
                            have c31b0 : ((bt a0 0) == 240) = false := beq_eq_false_iff_ne.mpr c31
                            have c31b1 : ((bt a0 0) != 240) = true := bne_iff_ne.mpr c31
                            (first | rw [c31b0] | (simp only [i64_w, i32_w]; rw [c31b0]) | skip)
                            have H' := Aside0.mk H
                            clear H
                            go_wp2
                            repeat (go_quiet (fail); try go_wp2)
                            go_meet
                            case rel => exact ⟨_, (128), (by first | rfl | (simp; done) | (simp [*]; done) | exact isEmpty_bne _), H', ⟨by have := HJ4.out; have := HJ11.out; have := HJ26.out; first | omega | exact Nat.le_refl _⟩, by repeat (first | exact Drawn0.refl _ | apply Drawn0.step)⟩
                        case rest =>
                          clear HC30
                          try clear c1
                          try clear p1
                          try clear q1
                          try clear hx1
                          try clear qi1
                          try clear c2
                          try clear c2b0
                          try clear c2b1
                          try clear p2
                          try clear q2
                          try clear hx2
                          try clear qi2
                          try clear c3
                          try clear p3
                          try clear q3
                          try clear hx3
                          try clear qi3
                          try clear c4
                          try clear c4b0
                          try clear c6
                          try clear c6b0
                          try clear p6
                          try clear c7
                          try clear c7b0
                          try clear c9
                          try clear c10
                          try clear c10b0
                          try clear c10b1
                          try clear c11
                          try clear p11
                          try clear q11
                          try clear hx11
                          try clear qi11
                          try clear c13
                          try clear c13b0
                          try clear c14
                          try clear c16
                          try clear c16b0
                          try clear c16b1
                          try clear c18
                          try clear c18b0
                          try clear c18b1
                          try clear c20
                          try clear c22
                          try clear c23
                          try clear c23b0
                          try clear c23b1
                          try clear p24
                          try clear q24
                          try clear hx24
                          try clear qi24
                          try clear c25
                          try clear c25b0
                          try clear c25b1
                          try clear c26
                          try clear p26
                          try clear q26
                          try clear hx26
                          try clear qi26
                          try clear c28
                          try clear c28b0
                          try clear c29
                          try clear c31
                          try clear c31b0
                          try clear c31b1
                          try clear p1
                          try clear p11
                          try clear p2
                          try clear p24
                          try clear p26
                          try clear p3
                          try clear p6
                          try clear q1
                          try clear q11
                          try clear q2
                          try clear q24
                          try clear q26
                          try clear q3
                          obtain ⟨kq, x7_29, rfl, HA, HJ29, ⟨mc29, rfl⟩⟩ := hcut
                          cases kq with
                          | zero => exact absurd HA.out (by simp [hatstandref3_Rune.j5])
                          | succ kj29 =>
                            have H := HA.out
                            clear HA
                            simp only [hatstandref3_Rune.j5] at H
                            have HC32 := Aside0.mk H
                            clear H
                            go_upto_if 80 with (fail)
                            repeat (go_quiet (fail); go_upto_if 80 with (fail))
                            go_cut [8] (fun v8 wc => ∃ (kq : Nat) (x8_31 : Int), v8 = .int .u8 x8_31 ∧ Aside0 (hatstandref3_Rune.j6 kq a0 (bt a0 0) x7_29 x8_31 = some (r1, r2)) ∧ Aside0 (kq ≤ kj29) ∧ Drawn0 w wc)
                            case first =>
                              have H := HC32.out
                              clear HC32
                              by_cases c33 : (bt a0 0) = 244
                              · rw [if_pos c33] at H
                                have c33b0 : ((bt a0 0) == 244) = true := beq_iff_eq.mpr c33
                                have c33b1 : ((bt a0 0) != 244) = false := bne_eq_false_iff_eq.mpr c33
                                clear c33
                                (first | rw [c33b0] | (simp only [i64_w, i32_w]; rw [c33b0]) | skip)
                                have H' := Aside0.mk H
                                clear H
                                go_wp2
                                repeat (go_quiet (fail); try go_wp2)
                                go_meet
                                case rel => exact ⟨_, (143), (by first | rfl | (simp; done) | (simp [*]; done) | exact isEmpty_bne _), H', ⟨by have := HJ4.out; have := HJ11.out; have := HJ26.out; have := HJ29.out; first | omega | exact Nat.le_refl _⟩, by repeat (first | exact Drawn0.refl _ | apply Drawn0.step)⟩
                              · rw [if_neg c33] at H
                                have c33b0 : ((bt a0 0) == 244) = false := beq_eq_false_iff_ne.mpr c33
                                have c33b1 : ((bt a0 0) != 244) = true := bne_iff_ne.mpr c33
                                (first | rw [c33b0] | (simp only [i64_w, i32_w]; rw [c33b0]) | skip)
                                have H' := Aside0.mk H
                                clear H
                                go_wp2
                                repeat (go_quiet (fail); try go_wp2)
                                go_meet
                                case rel => exact ⟨_, (191), (by first | rfl | (simp; done) | (simp [*]; done) | exact isEmpty_bne _), H', ⟨by have := HJ4.out; have := HJ11.out; have := HJ26.out; have := HJ29.out; first | omega | exact Nat.le_refl _⟩, by repeat (first | exact Drawn0.refl _ | apply Drawn0.step)⟩
                            case rest =>
                              clear HC32
                              try clear c1
                              try clear p1
                              try clear q1
                              try clear hx1
                              try clear qi1
                              try clear c2
                              try clear c2b0
                              try clear c2b1
                              try clear p2
                              try clear q2
                              try clear hx2
                              try clear qi2
                              try clear c3
                              try clear p3
                              try clear q3
                              try clear hx3
                              try clear qi3
                              try clear c4
                              try clear c4b0
                              try clear c6
                              try clear c6b0
                              try clear p6
                              try clear c7
                              try clear c7b0
                              try clear c9
                              try clear c10
                              try clear c10b0
                              try clear c10b1
                              try clear c11
                              try clear p11
                              try clear q11
                              try clear hx11
                              try clear qi11
                              try clear c13
                              try clear c13b0
                              try clear c14
                              try clear c16
                              try clear c16b0
                              try clear c16b1
                              try clear c18
                              try clear c18b0
                              try clear c18b1
                              try clear c20
                              try clear c22
                              try clear c23
                              try clear c23b0
                              try clear c23b1
                              try clear p24
                              try clear q24
                              try clear hx24
                              try clear qi24
                              try clear c25
                              try clear c25b0
                              try clear c25b1
                              try clear c26
                              try clear p26
                              try clear q26
                              try clear hx26
                              try clear qi26
                              try clear c28
                              try clear c28b0
                              try clear c29
                              try clear c31
                              try clear c31b0
                              try clear c31b1
                              try clear c33
                              try clear c33b0
                              try clear c33b1
                              try clear p1
                              try clear p11
                              try clear p2
                              try clear p24
                              try clear p26
                              try clear p3
                              try clear p6
                              try clear q1
                              try clear q11
                              try clear q2
                              try clear q24
                              try clear q26
                              try clear q3
                              obtain ⟨kq, x8_31, rfl, HA, HJ31, ⟨mc31, rfl⟩⟩ := hcut
                              cases kq with
                              | zero => exact absurd HA.out (by simp [hatstandref3_Rune.j6])
                              | succ kj31 =>
                                have H := HA.out
                                clear HA
                                simp only [hatstandref3_Rune.j6] at H
                                replace H := Option.bind_eq_some_iff.mp H
                                obtain ⟨t214, A340, H⟩ := H
                                replace H : (if t214 = true then ((hatstandref3_next.f a0 2 128 191).bind fun t215 => (if t215 = true then ((hatstandref3_next.f a0 3 128 191).bind fun t216 => (if t216 = true then (if 1 < (a0.size : Int) then (if 2 < (a0.size : Int) then (if 3 < (a0.size : Int) then (some (((((((bt a0 0) - 240) % 256) * 262144) + ((((bt a0 1) - 128) % 256) * 4096)) + ((((bt a0 2) - 128) % 256) * 64)) + (((bt a0 3) - 128) % 256), 4)) else (none)) else (none)) else (none)) else (some (65533, 1)))) else (some (65533, 1)))) else (some (65533, 1))) = some (r1, r2) := H
                                have A34 := Aside0.mk A340
                                clear A340
                                by_cases c35 : t214 = true
                                · subst c35
                                  have H1 : ((hatstandref3_next.f a0 2 128 191).bind fun t215 => (if t215 = true then ((hatstandref3_next.f a0 3 128 191).bind fun t216 => (if t216 = true then (if 1 < (a0.size : Int) then (if 2 < (a0.size : Int) then (if 3 < (a0.size : Int) then (some (((((((bt a0 0) - 240) % 256) * 262144) + ((((bt a0 1) - 128) % 256) * 4096)) + ((((bt a0 2) - 128) % 256) * 64)) + (((bt a0 3) - 128) % 256), 4)) else (none)) else (none)) else (none)) else (some (65533, 1)))) else (some (65533, 1)))) = some (r1, r2) := by rw [if_pos rfl] at H; exact H
                                  clear H
                                  have H := H1
                                  clear H1
                                  replace H := Option.bind_eq_some_iff.mp H
                                  obtain ⟨t215, A360, H⟩ := H
                                  replace H : (if t215 = true then ((hatstandref3_next.f a0 3 128 191).bind fun t216 => (if t216 = true then (if 1 < (a0.size : Int) then (if 2 < (a0.size : Int) then (if 3 < (a0.size : Int) then (some (((((((bt a0 0) - 240) % 256) * 262144) + ((((bt a0 1) - 128) % 256) * 4096)) + ((((bt a0 2) - 128) % 256) * 64)) + (((bt a0 3) - 128) % 256), 4)) else (none)) else (none)) else (none)) else (some (65533, 1)))) else (some (65533, 1))) = some (r1, r2) := H
                                  have A36 := Aside0.mk A360
                                  clear A360
                                  by_cases c37 : t215 = true
                                  · subst c37
                                    have H1 : ((hatstandref3_next.f a0 3 128 191).bind fun t216 => (if t216 = true then (if 1 < (a0.size : Int) then (if 2 < (a0.size : Int) then (if 3 < (a0.size : Int) then (some (((((((bt a0 0) - 240) % 256) * 262144) + ((((bt a0 1) - 128) % 256) * 4096)) + ((((bt a0 2) - 128) % 256) * 64)) + (((bt a0 3) - 128) % 256), 4)) else (none)) else (none)) else (none)) else (some (65533, 1)))) = some (r1, r2) := by rw [if_pos rfl] at H; exact H
                                    clear H
                                    have H := H1
                                    clear H1
                                    replace H := Option.bind_eq_some_iff.mp H
                                    obtain ⟨t216, A380, H⟩ := H
                                    replace H : (if t216 = true then (if 1 < (a0.size : Int) then (if 2 < (a0.size : Int) then (if 3 < (a0.size : Int) then (some (((((((bt a0 0) - 240) % 256) * 262144) + ((((bt a0 1) - 128) % 256) * 4096)) + ((((bt a0 2) - 128) % 256) * 64)) + (((bt a0 3) - 128) % 256), 4)) else (none)) else (none)) else (none)) else (some (65533, 1))) = some (r1, r2) := H
                                    have A38 := Aside0.mk A380
                                    clear A380
                                    by_cases c39 : t216 = true
                                    · subst c39
                                      have H1 : (if 1 < (a0.size : Int) then (if 2 < (a0.size : Int) then (if 3 < (a0.size : Int) then (some (((((((bt a0 0) - 240) % 256) * 262144) + ((((bt a0 1) - 128) % 256) * 4096)) + ((((bt a0 2) - 128) % 256) * 64)) + (((bt a0 3) - 128) % 256), 4)) else (none)) else (none)) else (none)) = some (r1, r2) := by rw [if_pos rfl] at H; exact H
                                      clear H
                                      have H := H1
                                      clear H1
                                      by_cases c40 : 1 < (a0.size : Int)
                                      · rw [if_pos c40] at H
                                        have c40b0 : decide (1 < (a0.size : Int)) = true := decide_eq_true c40
                                        have c40b1 : decide (1 < a0.size) = true := decide_eq_true (by omega)
                                        clear c40
                                        by_cases c42 : 2 < (a0.size : Int)
                                        · rw [if_pos c42] at H
                                          have c42b0 : decide (2 < (a0.size : Int)) = true := decide_eq_true c42
                                          have c42b1 : decide (2 < a0.size) = true := decide_eq_true (by omega)
                                          clear c42
                                          by_cases c44 : 3 < (a0.size : Int)
                                          · rw [if_pos c44] at H
                                            have c44b0 : decide (3 < (a0.size : Int)) = true := decide_eq_true c44
                                            have c44b1 : decide (3 < a0.size) = true := decide_eq_true (by omega)
                                            clear c44
                                            simp only [Option.some.injEq, Prod.mk.injEq] at H
                                            obtain ⟨rfl, rfl⟩ := H
                                            go_wp2_with (first | (go_at_call 40; (with_reducible refine (hatstandref3_next.calls a0 1 x7_29 x8_31 true _ A34.out).mono ?_); rintro e w' ⟨rfl, ⟨nd, rfl⟩⟩; (try first | exact ⟨rfl, _, World.drewN_drewN _ _ _⟩ | exact ⟨rfl, _, Eq.trans (World.drewN_drewN _ _ _) (congrArg (World.drewN _) (Nat.add_assoc _ _ _))⟩)) | (go_at_call 40; (with_reducible refine (hatstandref3_next.calls a0 2 128 191 true _ A36.out).mono ?_); rintro e w' ⟨rfl, ⟨nd, rfl⟩⟩; (try first | exact ⟨rfl, _, World.drewN_drewN _ _ _⟩ | exact ⟨rfl, _, Eq.trans (World.drewN_drewN _ _ _) (congrArg (World.drewN _) (Nat.add_assoc _ _ _))⟩)) | (go_at_call 40; (with_reducible refine (hatstandref3_next.calls a0 3 128 191 true _ A38.out).mono ?_); rintro e w' ⟨rfl, ⟨nd, rfl⟩⟩; (try first | exact ⟨rfl, _, World.drewN_drewN _ _ _⟩ | exact ⟨rfl, _, Eq.trans (World.drewN_drewN _ _ _) (congrArg (World.drewN _) (Nat.add_assoc _ _ _))⟩); have p41 : 0 ≤ (1 : Int) := (by omega); have q41 : 1 < a0.size := (by have : (1 : Int) < (a0.size : Int) := of_decide_eq_true (by first | (with_reducible assumption) | assumption); omega); have hx41 : ∀ h : 1 < a0.size, ((a0[1]'h).toNat : Int) = bt a0 1 := bt_at a0 1; clear p41; have qi41 : (1 < (a0.size : Int)) = True := eq_true (of_decide_eq_true (by first | (with_reducible assumption) | assumption)); replace q41 := eq_true q41; have p43 : 0 ≤ (2 : Int) := (by omega); have q43 : 2 < a0.size := (by have : (2 : Int) < (a0.size : Int) := of_decide_eq_true (by first | (with_reducible assumption) | assumption); omega); have hx43 : ∀ h : 2 < a0.size, ((a0[2]'h).toNat : Int) = bt a0 2 := bt_at a0 2; clear p43; have qi43 : (2 < (a0.size : Int)) = True := eq_true (of_decide_eq_true (by first | (with_reducible assumption) | assumption)); replace q43 := eq_true q43; have p45 : 0 ≤ (3 : Int) := (by omega); have q45 : 3 < a0.size := (by have : (3 : Int) < (a0.size : Int) := of_decide_eq_true (by first | (with_reducible assumption) | assumption); omega); have hx45 : ∀ h : 3 < a0.size, ((a0[3]'h).toNat : Int) = bt a0 3 := bt_at a0 3; clear p45; have qi45 : (3 < (a0.size : Int)) = True := eq_true (of_decide_eq_true (by first | (with_reducible assumption) | assumption)); replace q45 := eq_true q45))
                                            repeat (go_quiet (first | (go_at_call 40; (with_reducible refine (hatstandref3_next.calls a0 1 x7_29 x8_31 true _ A34.out).mono ?_); rintro e w' ⟨rfl, ⟨nd, rfl⟩⟩; (try first | exact ⟨rfl, _, World.drewN_drewN _ _ _⟩ | exact ⟨rfl, _, Eq.trans (World.drewN_drewN _ _ _) (congrArg (World.drewN _) (Nat.add_assoc _ _ _))⟩)) | (go_at_call 40; (with_reducible refine (hatstandref3_next.calls a0 2 128 191 true _ A36.out).mono ?_); rintro e w' ⟨rfl, ⟨nd, rfl⟩⟩; (try first | exact ⟨rfl, _, World.drewN_drewN _ _ _⟩ | exact ⟨rfl, _, Eq.trans (World.drewN_drewN _ _ _) (congrArg (World.drewN _) (Nat.add_assoc _ _ _))⟩)) | (go_at_call 40; (with_reducible refine (hatstandref3_next.calls a0 3 128 191 true _ A38.out).mono ?_); rintro e w' ⟨rfl, ⟨nd, rfl⟩⟩; (try first | exact ⟨rfl, _, World.drewN_drewN _ _ _⟩ | exact ⟨rfl, _, Eq.trans (World.drewN_drewN _ _ _) (congrArg (World.drewN _) (Nat.add_assoc _ _ _))⟩); have p41 : 0 ≤ (1 : Int) := (by omega); have q41 : 1 < a0.size := (by have : (1 : Int) < (a0.size : Int) := of_decide_eq_true (by first | (with_reducible assumption) | assumption); omega); have hx41 : ∀ h : 1 < a0.size, ((a0[1]'h).toNat : Int) = bt a0 1 := bt_at a0 1; clear p41; have qi41 : (1 < (a0.size : Int)) = True := eq_true (of_decide_eq_true (by first | (with_reducible assumption) | assumption)); replace q41 := eq_true q41; have p43 : 0 ≤ (2 : Int) := (by omega); have q43 : 2 < a0.size := (by have : (2 : Int) < (a0.size : Int) := of_decide_eq_true (by first | (with_reducible assumption) | assumption); omega); have hx43 : ∀ h : 2 < a0.size, ((a0[2]'h).toNat : Int) = bt a0 2 := bt_at a0 2; clear p43; have qi43 : (2 < (a0.size : Int)) = True := eq_true (of_decide_eq_true (by first | (with_reducible assumption) | assumption)); replace q43 := eq_true q43; have p45 : 0 ≤ (3 : Int) := (by omega); have q45 : 3 < a0.size := (by have : (3 : Int) < (a0.size : Int) := of_decide_eq_true (by first | (with_reducible assumption) | assumption); omega); have hx45 : ∀ h : 3 < a0.size, ((a0[3]'h).toNat : Int) = bt a0 3 := bt_at a0 3; clear p45; have qi45 : (3 < (a0.size : Int)) = True := eq_true (of_decide_eq_true (by first | (with_reducible assumption) | assumption)); replace q45 := eq_true q45)); try go_wp2_with (first | (go_at_call 40; (with_reducible refine (hatstandref3_next.calls a0 1 x7_29 x8_31 true _ A34.out).mono ?_); rintro e w' ⟨rfl, ⟨nd, rfl⟩⟩; (try first | exact ⟨rfl, _, World.drewN_drewN _ _ _⟩ | exact ⟨rfl, _, Eq.trans (World.drewN_drewN _ _ _) (congrArg (World.drewN _) (Nat.add_assoc _ _ _))⟩)) | (go_at_call 40; (with_reducible refine (hatstandref3_next.calls a0 2 128 191 true _ A36.out).mono ?_); rintro e w' ⟨rfl, ⟨nd, rfl⟩⟩; (try first | exact ⟨rfl, _, World.drewN_drewN _ _ _⟩ | exact ⟨rfl, _, Eq.trans (World.drewN_drewN _ _ _) (congrArg (World.drewN _) (Nat.add_assoc _ _ _))⟩)) | (go_at_call 40; (with_reducible refine (hatstandref3_next.calls a0 3 128 191 true _ A38.out).mono ?_); rintro e w' ⟨rfl, ⟨nd, rfl⟩⟩; (try first | exact ⟨rfl, _, World.drewN_drewN _ _ _⟩ | exact ⟨rfl, _, Eq.trans (World.drewN_drewN _ _ _) (congrArg (World.drewN _) (Nat.add_assoc _ _ _))⟩); have p41 : 0 ≤ (1 : Int) := (by omega); have q41 : 1 < a0.size := (by have : (1 : Int) < (a0.size : Int) := of_decide_eq_true (by first | (with_reducible assumption) | assumption); omega); have hx41 : ∀ h : 1 < a0.size, ((a0[1]'h).toNat : Int) = bt a0 1 := bt_at a0 1; clear p41; have qi41 : (1 < (a0.size : Int)) = True := eq_true (of_decide_eq_true (by first | (with_reducible assumption) | assumption)); replace q41 := eq_true q41; have p43 : 0 ≤ (2 : Int) := (by omega); have q43 : 2 < a0.size := (by have : (2 : Int) < (a0.size : Int) := of_decide_eq_true (by first | (with_reducible assumption) | assumption); omega); have hx43 : ∀ h : 2 < a0.size, ((a0[2]'h).toNat : Int) = bt a0 2 := bt_at a0 2; clear p43; have qi43 : (2 < (a0.size : Int)) = True := eq_true (of_decide_eq_true (by first | (with_reducible assumption) | assumption)); replace q43 := eq_true q43; have p45 : 0 ≤ (3 : Int) := (by omega); have q45 : 3 < a0.size := (by have : (3 : Int) < (a0.size : Int) := of_decide_eq_true (by first | (with_reducible assumption) | assumption); omega); have hx45 : ∀ h : 3 < a0.size, ((a0[3]'h).toNat : Int) = bt a0 3 := bt_at a0 3; clear p45; have qi45 : (3 < (a0.size : Int)) = True := eq_true (of_decide_eq_true (by first | (with_reducible assumption) | assumption)); replace q45 := eq_true q45)))
                                            go_ret2
                                            exact ⟨by first | rfl | (simp; done) | (simp [*]; done) | exact isEmpty_bne _, by repeat (first | exact Drawn0.refl _ | apply Drawn0.step)⟩
                                          · rw [if_neg c44] at H
                                            exact absurd H (by simp)
                                        · rw [if_neg c42] at H
                                          exact absurd H (by simp)
                                      · rw [if_neg c40] at H
                                        exact absurd H (by simp)
                                    · replace c39 := Bool.eq_false_iff.mpr c39
                                      subst c39
                                      have H1 : (some (65533, 1)) = some (r1, r2) := by rw [if_neg (show ¬ (false = true) by decide)] at H; exact H
                                      clear H
                                      have H := H1
                                      clear H1
                                      simp only [Option.some.injEq, Prod.mk.injEq] at H
                                      obtain ⟨rfl, rfl⟩ := H
                                      go_wp2_with (first | (go_at_call 40; (with_reducible refine (hatstandref3_next.calls a0 1 x7_29 x8_31 true _ A34.out).mono ?_); rintro e w' ⟨rfl, ⟨nd, rfl⟩⟩; (try first | exact ⟨rfl, _, World.drewN_drewN _ _ _⟩ | exact ⟨rfl, _, Eq.trans (World.drewN_drewN _ _ _) (congrArg (World.drewN _) (Nat.add_assoc _ _ _))⟩)) | (go_at_call 40; (with_reducible refine (hatstandref3_next.calls a0 2 128 191 true _ A36.out).mono ?_); rintro e w' ⟨rfl, ⟨nd, rfl⟩⟩; (try first | exact ⟨rfl, _, World.drewN_drewN _ _ _⟩ | exact ⟨rfl, _, Eq.trans (World.drewN_drewN _ _ _) (congrArg (World.drewN _) (Nat.add_assoc _ _ _))⟩)) | (go_at_call 40; (with_reducible refine (hatstandref3_next.calls a0 3 128 191 false _ A38.out).mono ?_); rintro e w' ⟨rfl, ⟨nd, rfl⟩⟩; (try first | exact ⟨rfl, _, World.drewN_drewN _ _ _⟩ | exact ⟨rfl, _, Eq.trans (World.drewN_drewN _ _ _) (congrArg (World.drewN _) (Nat.add_assoc _ _ _))⟩)))
                                      repeat (go_quiet (first | (go_at_call 40; (with_reducible refine (hatstandref3_next.calls a0 1 x7_29 x8_31 true _ A34.out).mono ?_); rintro e w' ⟨rfl, ⟨nd, rfl⟩⟩; (try first | exact ⟨rfl, _, World.drewN_drewN _ _ _⟩ | exact ⟨rfl, _, Eq.trans (World.drewN_drewN _ _ _) (congrArg (World.drewN _) (Nat.add_assoc _ _ _))⟩)) | (go_at_call 40; (with_reducible refine (hatstandref3_next.calls a0 2 128 191 true _ A36.out).mono ?_); rintro e w' ⟨rfl, ⟨nd, rfl⟩⟩; (try first | exact ⟨rfl, _, World.drewN_drewN _ _ _⟩ | exact ⟨rfl, _, Eq.trans (World.drewN_drewN _ _ _) (congrArg (World.drewN _) (Nat.add_assoc _ _ _))⟩)) | (go_at_call 40; (with_reducible refine (hatstandref3_next.calls a0 3 128 191 false _ A38.out).mono ?_); rintro e w' ⟨rfl, ⟨nd, rfl⟩⟩; (try first | exact ⟨rfl, _, World.drewN_drewN _ _ _⟩ | exact ⟨rfl, _, Eq.trans (World.drewN_drewN _ _ _) (congrArg (World.drewN _) (Nat.add_assoc _ _ _))⟩))); try go_wp2_with (first | (go_at_call 40; (with_reducible refine (hatstandref3_next.calls a0 1 x7_29 x8_31 true _ A34.out).mono ?_); rintro e w' ⟨rfl, ⟨nd, rfl⟩⟩; (try first | exact ⟨rfl, _, World.drewN_drewN _ _ _⟩ | exact ⟨rfl, _, Eq.trans (World.drewN_drewN _ _ _) (congrArg (World.drewN _) (Nat.add_assoc _ _ _))⟩)) | (go_at_call 40; (with_reducible refine (hatstandref3_next.calls a0 2 128 191 true _ A36.out).mono ?_); rintro e w' ⟨rfl, ⟨nd, rfl⟩⟩; (try first | exact ⟨rfl, _, World.drewN_drewN _ _ _⟩ | exact ⟨rfl, _, Eq.trans (World.drewN_drewN _ _ _) (congrArg (World.drewN _) (Nat.add_assoc _ _ _))⟩)) | (go_at_call 40; (with_reducible refine (hatstandref3_next.calls a0 3 128 191 false _ A38.out).mono ?_); rintro e w' ⟨rfl, ⟨nd, rfl⟩⟩; (try first | exact ⟨rfl, _, World.drewN_drewN _ _ _⟩ | exact ⟨rfl, _, Eq.trans (World.drewN_drewN _ _ _) (congrArg (World.drewN _) (Nat.add_assoc _ _ _))⟩))))
                                      go_ret2
                                      exact ⟨by first | rfl | (simp; done) | (simp [*]; done) | exact isEmpty_bne _, by repeat (first | exact Drawn0.refl _ | apply Drawn0.step)⟩
                                  · replace c37 := Bool.eq_false_iff.mpr c37
                                    subst c37
                                    have H1 : (some (65533, 1)) = some (r1, r2) := by rw [if_neg (show ¬ (false = true) by decide)] at H; exact H
                                    clear H
                                    have H := H1
                                    clear H1
                                    simp only [Option.some.injEq, Prod.mk.injEq] at H
                                    obtain ⟨rfl, rfl⟩ := H
                                    go_wp2_with (first | (go_at_call 40; (with_reducible refine (hatstandref3_next.calls a0 1 x7_29 x8_31 true _ A34.out).mono ?_); rintro e w' ⟨rfl, ⟨nd, rfl⟩⟩; (try first | exact ⟨rfl, _, World.drewN_drewN _ _ _⟩ | exact ⟨rfl, _, Eq.trans (World.drewN_drewN _ _ _) (congrArg (World.drewN _) (Nat.add_assoc _ _ _))⟩)) | (go_at_call 40; (with_reducible refine (hatstandref3_next.calls a0 2 128 191 false _ A36.out).mono ?_); rintro e w' ⟨rfl, ⟨nd, rfl⟩⟩; (try first | exact ⟨rfl, _, World.drewN_drewN _ _ _⟩ | exact ⟨rfl, _, Eq.trans (World.drewN_drewN _ _ _) (congrArg (World.drewN _) (Nat.add_assoc _ _ _))⟩)))
                                    repeat (go_quiet (first | (go_at_call 40; (with_reducible refine (hatstandref3_next.calls a0 1 x7_29 x8_31 true _ A34.out).mono ?_); rintro e w' ⟨rfl, ⟨nd, rfl⟩⟩; (try first | exact ⟨rfl, _, World.drewN_drewN _ _ _⟩ | exact ⟨rfl, _, Eq.trans (World.drewN_drewN _ _ _) (congrArg (World.drewN _) (Nat.add_assoc _ _ _))⟩)) | (go_at_call 40; (with_reducible refine (hatstandref3_next.calls a0 2 128 191 false _ A36.out).mono ?_); rintro e w' ⟨rfl, ⟨nd, rfl⟩⟩; (try first | exact ⟨rfl, _, World.drewN_drewN _ _ _⟩ | exact ⟨rfl, _, Eq.trans (World.drewN_drewN _ _ _) (congrArg (World.drewN _) (Nat.add_assoc _ _ _))⟩))); try go_wp2_with (first | (go_at_call 40; (with_reducible refine (hatstandref3_next.calls a0 1 x7_29 x8_31 true _ A34.out).mono ?_); rintro e w' ⟨rfl, ⟨nd, rfl⟩⟩; (try first | exact ⟨rfl, _, World.drewN_drewN _ _ _⟩ | exact ⟨rfl, _, Eq.trans (World.drewN_drewN _ _ _) (congrArg (World.drewN _) (Nat.add_assoc _ _ _))⟩)) | (go_at_call 40; (with_reducible refine (hatstandref3_next.calls a0 2 128 191 false _ A36.out).mono ?_); rintro e w' ⟨rfl, ⟨nd, rfl⟩⟩; (try first | exact ⟨rfl, _, World.drewN_drewN _ _ _⟩ | exact ⟨rfl, _, Eq.trans (World.drewN_drewN _ _ _) (congrArg (World.drewN _) (Nat.add_assoc _ _ _))⟩))))
                                    go_ret2
                                    exact ⟨by first | rfl | (simp; done) | (simp [*]; done) | exact isEmpty_bne _, by repeat (first | exact Drawn0.refl _ | apply Drawn0.step)⟩
                                · replace c35 := Bool.eq_false_iff.mpr c35
                                  subst c35
                                  have H1 : (some (65533, 1)) = some (r1, r2) := by rw [if_neg (show ¬ (false = true) by decide)] at H; exact H
                                  clear H
                                  have H := H1
                                  clear H1
                                  simp only [Option.some.injEq, Prod.mk.injEq] at H
                                  obtain ⟨rfl, rfl⟩ := H
                                  go_wp2_with (first | (go_at_call 40; (with_reducible refine (hatstandref3_next.calls a0 1 x7_29 x8_31 false _ A34.out).mono ?_); rintro e w' ⟨rfl, ⟨nd, rfl⟩⟩; (try first | exact ⟨rfl, _, World.drewN_drewN _ _ _⟩ | exact ⟨rfl, _, Eq.trans (World.drewN_drewN _ _ _) (congrArg (World.drewN _) (Nat.add_assoc _ _ _))⟩)))
                                  repeat (go_quiet (first | (go_at_call 40; (with_reducible refine (hatstandref3_next.calls a0 1 x7_29 x8_31 false _ A34.out).mono ?_); rintro e w' ⟨rfl, ⟨nd, rfl⟩⟩; (try first | exact ⟨rfl, _, World.drewN_drewN _ _ _⟩ | exact ⟨rfl, _, Eq.trans (World.drewN_drewN _ _ _) (congrArg (World.drewN _) (Nat.add_assoc _ _ _))⟩))); try go_wp2_with (first | (go_at_call 40; (with_reducible refine (hatstandref3_next.calls a0 1 x7_29 x8_31 false _ A34.out).mono ?_); rintro e w' ⟨rfl, ⟨nd, rfl⟩⟩; (try first | exact ⟨rfl, _, World.drewN_drewN _ _ _⟩ | exact ⟨rfl, _, Eq.trans (World.drewN_drewN _ _ _) (congrArg (World.drewN _) (Nat.add_assoc _ _ _))⟩))))
                                  go_ret2
                                  exact ⟨by first | rfl | (simp; done) | (simp [*]; done) | exact isEmpty_bne _, by repeat (first | exact Drawn0.refl _ | apply Drawn0.step)⟩
                      · replace c29 := Bool.eq_false_iff.mpr c29
                        subst c29
                        have H1 : (some (65533, 1)) = some (r1, r2) := by rw [if_neg (show ¬ (false = true) by decide)] at H; exact H
                        clear H
                        have H := H1
                        clear H1
                        simp only [Option.some.injEq, Prod.mk.injEq] at H
                        obtain ⟨rfl, rfl⟩ := H
                        go_wp2
                        repeat (go_quiet (fail); try go_wp2)
                        go_ret2
                        exact ⟨by first | rfl | (simp; done) | (simp [*]; done) | exact isEmpty_bne _, by repeat (first | exact Drawn0.refl _ | apply Drawn0.step)⟩
  · rw [if_neg c2] at H
    exact absurd H (by simp)

end Go.Proofs.YtcldjdngfmakbaaDoor.G

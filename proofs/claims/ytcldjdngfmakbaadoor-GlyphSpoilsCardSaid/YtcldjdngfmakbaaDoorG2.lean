-- Written by this session's own program wip/tool/myprint.py over the kit's printer; not trusted: Lean checks it.
import Derived.Test.YtcldjdngfmakbaaDoorG0
import Derived.Test.YtcldjdngfmakbaaDoorGround
namespace Go.Proofs.YtcldjdngfmakbaaDoor.G
open Go.RowKit Go.Proofs.YtcldjdngfmakbaaDoorW.PrintWords Go.Proofs.YtcldjdngfmakbaaDoorW.PrintLast Go.Proofs.YtcldjdngfmakbaaDoorW.PrintMore
attribute [local go_sem] max2_int min2_int max_two min_two max_three min_three max_four min_four   -- for this text's walks alone
set_option linter.unusedVariables false
set_option linter.unusedSimpArgs false

open Go.Proofs.YtcldjdngfmakbaaDoor
/-! ### hatstandref3_Same: function 13 -/
mutual
def hatstandref3_Same.l0 : Nat → List (S29) → List (S29) → Bool → Int → Option (Bool)
  | 0, _, _, _, _ => none
  | k + 1, x0, x1, x2, x7 => if x7 < (x0.length : Int) then (if 0 ≤ x7 then (if x7 < (x1.length : Int) then (if ((rd_T29 x0 x7).f0) = ((rd_T29 x1 x7).f0) then (if (((rd_T29 x0 x7).f2) != ((rd_T29 x1 x7).f2)) = true then (hatstandref3_Same.j1 k x0 x1 x2 x7 true) else (if x2 = true then (if ((rd_T29 x0 x7).f3) = ((rd_T29 x1 x7).f3) then (hatstandref3_Same.j1 k x0 x1 x2 x7 ((((rd_T29 x0 x7).f1).length : Int) != (((rd_T29 x1 x7).f1).length : Int))) else (hatstandref3_Same.j1 k x0 x1 x2 x7 true)) else (hatstandref3_Same.j1 k x0 x1 x2 x7 ((((rd_T29 x0 x7).f1).length : Int) != (((rd_T29 x1 x7).f1).length : Int))))) else (hatstandref3_Same.j1 k x0 x1 x2 x7 true)) else (none)) else (none)) else (some true)
def hatstandref3_Same.j1 : Nat → List (S29) → List (S29) → Bool → Int → Bool → Option (Bool)
  | 0, _, _, _, _, _ => none
  | k + 1, x0, x1, x2, x7, x74 => if x74 = true then (some false) else (hatstandref3_Same.l1 k x0 x1 x2 x7 0)
def hatstandref3_Same.l1 : Nat → List (S29) → List (S29) → Bool → Int → Int → Option (Bool)
  | 0, _, _, _, _, _ => none
  | k + 1, x0, x1, x2, x7, x8 => if 0 ≤ x7 then (if x7 < (x0.length : Int) then (if x8 < (((rd_T29 x0 x7).f1).length : Int) then (if 0 ≤ x8 then (if x7 < (x1.length : Int) then (if x8 < (((rd_T29 x1 x7).f1).length : Int) then (if (rd ((rd_T29 x0 x7).f1) x8) = (rd ((rd_T29 x1 x7).f1) x8) then (hatstandref3_Same.l1 k x0 x1 x2 x7 (wrap64 (x8 + 1))) else (some false)) else (none)) else (none)) else (none)) else (hatstandref3_Same.l0 k x0 x1 x2 (wrap64 (x7 + 1)))) else (none)) else (none)
end
def hatstandref3_Same.f (k : Nat) (l0 : List (S29)) (l1 : List (S29)) (a2 : Bool) : Option (Bool) := if (l0.length : Int) = (l1.length : Int) then (hatstandref3_Same.l0 k l0 l1 a2 0) else (some false)
theorem hatstandref3_Same.mono_l : ∀ k, (∀ y0 y1 y2 y3, LeO (hatstandref3_Same.l0 k y0 y1 y2 y3) (hatstandref3_Same.l0 (k + 1) y0 y1 y2 y3)) ∧ (∀ y0 y1 y2 y3 y4, LeO (hatstandref3_Same.j1 k y0 y1 y2 y3 y4) (hatstandref3_Same.j1 (k + 1) y0 y1 y2 y3 y4)) ∧ (∀ y0 y1 y2 y3 y4, LeO (hatstandref3_Same.l1 k y0 y1 y2 y3 y4) (hatstandref3_Same.l1 (k + 1) y0 y1 y2 y3 y4))
  | 0 => ⟨fun _ _ _ _ r h => by simp [hatstandref3_Same.l0] at h, fun _ _ _ _ _ r h => by simp [hatstandref3_Same.j1] at h, fun _ _ _ _ _ r h => by simp [hatstandref3_Same.l1] at h⟩
  | k + 1 => by
    obtain ⟨ih0, ih1, ih2⟩ := hatstandref3_Same.mono_l k
    refine ⟨?_, ?_, ?_⟩
    · intro y0 y1 y2 y3
      unfold hatstandref3_Same.l0
      repeat' first
      | (with_reducible exact ih0 _ _ _ _)
      | (with_reducible exact ih1 _ _ _ _ _)
      | (with_reducible exact ih2 _ _ _ _ _)
      | (with_reducible exact LeO.refl _)
      | (with_reducible exact LeO.none _)
      | (with_reducible refine LeO.ite ?_ ?_)
      | (with_reducible refine LeO.bind ?_ (fun _ => ?_))
      | exact ih0 _ _ _ _
      | exact ih1 _ _ _ _ _
      | exact ih2 _ _ _ _ _
      | exact LeO.none _
      | refine LeO.ite ?_ ?_
      | refine LeO.bind ?_ (fun _ => ?_)
    · intro y0 y1 y2 y3 y4
      unfold hatstandref3_Same.j1
      repeat' first
      | (with_reducible exact ih0 _ _ _ _)
      | (with_reducible exact ih1 _ _ _ _ _)
      | (with_reducible exact ih2 _ _ _ _ _)
      | (with_reducible exact LeO.refl _)
      | (with_reducible exact LeO.none _)
      | (with_reducible refine LeO.ite ?_ ?_)
      | (with_reducible refine LeO.bind ?_ (fun _ => ?_))
      | exact ih0 _ _ _ _
      | exact ih1 _ _ _ _ _
      | exact ih2 _ _ _ _ _
      | exact LeO.none _
      | refine LeO.ite ?_ ?_
      | refine LeO.bind ?_ (fun _ => ?_)
    · intro y0 y1 y2 y3 y4
      unfold hatstandref3_Same.l1
      repeat' first
      | (with_reducible exact ih0 _ _ _ _)
      | (with_reducible exact ih1 _ _ _ _ _)
      | (with_reducible exact ih2 _ _ _ _ _)
      | (with_reducible exact LeO.refl _)
      | (with_reducible exact LeO.none _)
      | (with_reducible refine LeO.ite ?_ ?_)
      | (with_reducible refine LeO.bind ?_ (fun _ => ?_))
      | exact ih0 _ _ _ _
      | exact ih1 _ _ _ _ _
      | exact ih2 _ _ _ _ _
      | exact LeO.none _
      | refine LeO.ite ?_ ?_
      | refine LeO.bind ?_ (fun _ => ?_)
theorem hatstandref3_Same.mono : ∀ a0 a1 a2 k, LeO (hatstandref3_Same.f k a0 a1 a2) (hatstandref3_Same.f (k + 1) a0 a1 a2) := by
  intro a0 a1 a2 k
  obtain ⟨ih0, ih1, ih2⟩ := hatstandref3_Same.mono_l k
  unfold hatstandref3_Same.f
  repeat' first
      | (with_reducible exact ih0 _ _ _ _)
      | (with_reducible exact ih1 _ _ _ _ _)
      | (with_reducible exact ih2 _ _ _ _ _)
      | (with_reducible exact LeO.refl _)
      | (with_reducible exact LeO.none _)
      | (with_reducible refine LeO.ite ?_ ?_)
      | (with_reducible refine LeO.bind ?_ (fun _ => ?_))
      | exact ih0 _ _ _ _
      | exact ih1 _ _ _ _ _
      | exact ih2 _ _ _ _ _
      | exact LeO.none _
      | refine LeO.ite ?_ ?_
      | refine LeO.bind ?_ (fun _ => ?_)
set_option maxHeartbeats 8000000 in
set_option maxRecDepth 100000 in
theorem hatstandref3_Same.calls (k : Nat) (A0 : Option Addr) (c0 : Nat) (l0 : List (S29)) (A1 : Option Addr) (c1 : Nat) (l1 : List (S29)) (a2 : Bool) (r : Bool) (w : World) (hr0 : Kd.C k29 w A0 l0.length l0) (hc0 : l0.length ≤ c0) (hr1 : Kd.C k29 w A1 l1.length l1) (hc1 : l1.length ≤ c1) (h : hatstandref3_Same.f k l0 l1 a2 = some r) :
    Calls Tryd.prog 13 #[.slice A0 l0.length c0, .slice A1 l1.length c1, .bool a2] w fun e w' => e = .returned (.bool r) ∧ Drawn0 w w' := by
  have HR0 := Aside0.mk hr0
  have HC0 := Aside0.mk hc0
  clear hr0 hc0
  have HR1 := Aside0.mk hr1
  have HC1 := Aside0.mk hc1
  clear hr1 hc1
  have H : (if (l0.length : Int) = (l1.length : Int) then (hatstandref3_Same.l0 k l0 l1 a2 0) else (some false)) = some r := h
  clear h
  by_cases c4 : (l0.length : Int) = (l1.length : Int)
  · rw [if_pos c4] at H
    have c4b0 : ((l0.length : Int) == (l1.length : Int)) = true := beq_iff_eq.mpr c4
    have c4b1 : ((l0.length : Int) != (l1.length : Int)) = false := bne_eq_false_iff_eq.mpr c4
    have c4b2 : (l0.length == l1.length) = true := by first | simpa using c4 | (simp at c4 ⊢; omega)
    clear c4
    have H' := Aside0.mk H
    clear H
    go_enter Tryd.func13, Tryd.ntmps13
    go_wp2
    repeat (go_quiet (fail); try go_wp2)
    go_loopg [7] k (fun kq v7 w' => ∃ (x7_1 : Int), v7 = .int .i64 x7_1 ∧ Aside0 (hatstandref3_Same.l0 kq l0 l1 a2 x7_1 = some r) ∧ Aside0 (kq ≤ k) ∧ Drawn0 w w')
    case atStart => exact ⟨(0), (by first | rfl | (simp; done) | (simp [*]; done) | exact isEmpty_bne _), H', ⟨Nat.le_refl _⟩, by repeat (first | exact Drawn0.refl _ | apply Drawn0.step)⟩
    case round =>
      clear H'
      try clear c1
      try clear p2
      try clear c4
      try clear c4b0
      try clear c4b1
      try clear c4b2
      obtain ⟨x7_1, rfl, HA, HK1, ⟨m1, rfl⟩⟩ := hrel
      cases gk with
      | zero => exact absurd HA.out (by simp [hatstandref3_Same.l0])
      | succ k1 =>
        have H := HA.out
        clear HA
        simp only [hatstandref3_Same.l0] at H
        by_cases c5 : x7_1 < (l0.length : Int)
        · rw [if_pos c5] at H
          have c5b0 : decide (x7_1 < (l0.length : Int)) = true := decide_eq_true c5
          clear c5
          have HC6 := Aside0.mk H
          clear H
          go_upto_region 6 with (fail)
          repeat (go_quiet (fail); go_upto_region 6 with (fail))
          go_cut [74] (fun v74 wc => ∃ (kq : Nat) (x74_5 : Bool), v74 = .bool x74_5 ∧ Aside0 (hatstandref3_Same.j1 kq l0 l1 a2 x7_1 x74_5 = some r) ∧ Aside0 (kq ≤ k1) ∧ Drawn0 w wc)
          case first =>
            have H := HC6.out
            clear HC6
            by_cases c7 : 0 ≤ x7_1
            · rw [if_pos c7] at H
              have c7b0 : decide (0 ≤ x7_1) = true := decide_eq_true c7
              clear c7
              (first | rw [c7b0] | (simp only [i64_w, i32_w]; rw [c7b0]) | skip)
              by_cases c8 : x7_1 < (l1.length : Int)
              · rw [if_pos c8] at H
                have c8b0 : decide (x7_1 < (l1.length : Int)) = true := decide_eq_true c8
                clear c8
                by_cases c9 : ((rd_T29 l0 x7_1).f0) = ((rd_T29 l1 x7_1).f0)
                · rw [if_pos c9] at H
                  have c9b0 : (((rd_T29 l0 x7_1).f0) == ((rd_T29 l1 x7_1).f0)) = true := beq_iff_eq.mpr c9
                  have c9b1 : (((rd_T29 l0 x7_1).f0) != ((rd_T29 l1 x7_1).f0)) = false := bne_eq_false_iff_eq.mpr c9
                  clear c9
                  by_cases c10 : (((rd_T29 l0 x7_1).f2) != ((rd_T29 l1 x7_1).f2)) = true
                  · rw [if_pos c10] at H
                    have c10b0 : (((rd_T29 l0 x7_1).f2) != ((rd_T29 l1 x7_1).f2)) = true := c10
                    (try (have c10b1 : decide (((rd_T29 l0 x7_1).f2) = ((rd_T29 l1 x7_1).f2)) = false := by simpa using c10))
                    (try (have c10b2 : (((rd_T29 l0 x7_1).f2) == ((rd_T29 l1 x7_1).f2)) = false := by simpa using c10))
                    (try (have c10b3 : ¬ (((rd_T29 l0 x7_1).f2) = ((rd_T29 l1 x7_1).f2)) := by simpa using c10))
                    clear c10
                    have H' := Aside0.mk H
                    clear H
                    have p108 : 0 ≤ (x7_1 : Int) := of_decide_eq_true (by first | (with_reducible assumption) | assumption)
                    have q108 : x7_1 < (l0.length : Int) := of_decide_eq_true (by first | (with_reducible assumption) | assumption)
                    obtain ⟨ad108, A108_1, c108_1, e108, hx108_0, hx108_1, hx108_2, hx108_3, hl108_1, hi108_1⟩ := at_T29 HR0.out x7_1 p108 q108
                    cases e108
                    have HR108_1 := Aside0.mk hi108_1
                    have HC108_1 := Aside0.mk hl108_1
                    clear hi108_1 hl108_1
                    replace p108 := eq_true p108
                    replace q108 := eq_true q108
                    have p109 : 0 ≤ (x7_1 : Int) := of_decide_eq_true (by first | (with_reducible assumption) | assumption)
                    have q109 : x7_1 < (l1.length : Int) := of_decide_eq_true (by first | (with_reducible assumption) | assumption)
                    obtain ⟨ad109, A109_1, c109_1, e109, hx109_0, hx109_1, hx109_2, hx109_3, hl109_1, hi109_1⟩ := at_T29 HR1.out x7_1 p109 q109
                    cases e109
                    have HR109_1 := Aside0.mk hi109_1
                    have HC109_1 := Aside0.mk hl109_1
                    clear hi109_1 hl109_1
                    replace p109 := eq_true p109
                    replace q109 := eq_true q109
                    have p110 : 0 ≤ (x7_1 : Int) := of_decide_eq_true (by first | (with_reducible assumption) | assumption)
                    have q110 : x7_1 < (l0.length : Int) := of_decide_eq_true (by first | (with_reducible assumption) | assumption)
                    obtain ⟨ad110, A110_1, c110_1, e110, hx110_0, hx110_1, hx110_2, hx110_3, hl110_1, hi110_1⟩ := at_T29 HR0.out x7_1 p110 q110
                    obtain rfl : ad108 = ad110 := (by injection e110)
                    have HR110_1 := Aside0.mk hi110_1
                    have HC110_1 := Aside0.mk hl110_1
                    clear hi110_1 hl110_1
                    replace p110 := eq_true p110
                    replace q110 := eq_true q110
                    have ea_ := Option.some.inj (hx108_1.symm.trans hx110_1)
                    injection ea_ with ea_ en_ ec_
                    subst ea_
                    subst ec_
                    clear en_
                    have p111 : 0 ≤ (x7_1 : Int) := of_decide_eq_true (by first | (with_reducible assumption) | assumption)
                    have q111 : x7_1 < (l1.length : Int) := of_decide_eq_true (by first | (with_reducible assumption) | assumption)
                    obtain ⟨ad111, A111_1, c111_1, e111, hx111_0, hx111_1, hx111_2, hx111_3, hl111_1, hi111_1⟩ := at_T29 HR1.out x7_1 p111 q111
                    obtain rfl : ad109 = ad111 := (by injection e111)
                    have HR111_1 := Aside0.mk hi111_1
                    have HC111_1 := Aside0.mk hl111_1
                    clear hi111_1 hl111_1
                    replace p111 := eq_true p111
                    replace q111 := eq_true q111
                    have ea_ := Option.some.inj (hx109_1.symm.trans hx111_1)
                    injection ea_ with ea_ en_ ec_
                    subst ea_
                    subst ec_
                    clear en_
                    go_wp2
                    repeat (go_quiet (fail); try go_wp2)
                    go_meet
                    case rel => exact ⟨_, (true), (by first | rfl | (simp; done) | (simp [*]; done) | exact isEmpty_bne _), H', ⟨by have := HK1.out; first | omega | exact Nat.le_refl _⟩, by repeat (first | exact Drawn0.refl _ | apply Drawn0.step)⟩
                  · rw [if_neg c10] at H
                    have c10b0 : (((rd_T29 l0 x7_1).f2) != ((rd_T29 l1 x7_1).f2)) = false := by simpa using c10
                    (try (have c10b1 : decide (((rd_T29 l0 x7_1).f2) = ((rd_T29 l1 x7_1).f2)) = true := by simpa using c10))
                    (try (have c10b2 : (((rd_T29 l0 x7_1).f2) == ((rd_T29 l1 x7_1).f2)) = true := by simpa using c10))
                    clear c10
                    by_cases c11 : a2 = true
                    · subst c11
                      have H1 : (if ((rd_T29 l0 x7_1).f3) = ((rd_T29 l1 x7_1).f3) then (hatstandref3_Same.j1 k1 l0 l1 true x7_1 ((((rd_T29 l0 x7_1).f1).length : Int) != (((rd_T29 l1 x7_1).f1).length : Int))) else (hatstandref3_Same.j1 k1 l0 l1 true x7_1 true)) = some r := by rw [if_pos rfl] at H; exact H
                      clear H
                      have H := H1
                      clear H1
                      by_cases c12 : ((rd_T29 l0 x7_1).f3) = ((rd_T29 l1 x7_1).f3)
                      · rw [if_pos c12] at H
                        have c12b0 : (((rd_T29 l0 x7_1).f3) == ((rd_T29 l1 x7_1).f3)) = true := beq_iff_eq.mpr c12
                        have c12b1 : (((rd_T29 l0 x7_1).f3) != ((rd_T29 l1 x7_1).f3)) = false := bne_eq_false_iff_eq.mpr c12
                        clear c12
                        have H' := Aside0.mk H
                        clear H
                        have p108 : 0 ≤ (x7_1 : Int) := of_decide_eq_true (by first | (with_reducible assumption) | assumption)
                        have q108 : x7_1 < (l0.length : Int) := of_decide_eq_true (by first | (with_reducible assumption) | assumption)
                        obtain ⟨ad108, A108_1, c108_1, e108, hx108_0, hx108_1, hx108_2, hx108_3, hl108_1, hi108_1⟩ := at_T29 HR0.out x7_1 p108 q108
                        cases e108
                        have HR108_1 := Aside0.mk hi108_1
                        have HC108_1 := Aside0.mk hl108_1
                        clear hi108_1 hl108_1
                        replace p108 := eq_true p108
                        replace q108 := eq_true q108
                        have p109 : 0 ≤ (x7_1 : Int) := of_decide_eq_true (by first | (with_reducible assumption) | assumption)
                        have q109 : x7_1 < (l1.length : Int) := of_decide_eq_true (by first | (with_reducible assumption) | assumption)
                        obtain ⟨ad109, A109_1, c109_1, e109, hx109_0, hx109_1, hx109_2, hx109_3, hl109_1, hi109_1⟩ := at_T29 HR1.out x7_1 p109 q109
                        cases e109
                        have HR109_1 := Aside0.mk hi109_1
                        have HC109_1 := Aside0.mk hl109_1
                        clear hi109_1 hl109_1
                        replace p109 := eq_true p109
                        replace q109 := eq_true q109
                        have p110 : 0 ≤ (x7_1 : Int) := of_decide_eq_true (by first | (with_reducible assumption) | assumption)
                        have q110 : x7_1 < (l0.length : Int) := of_decide_eq_true (by first | (with_reducible assumption) | assumption)
                        obtain ⟨ad110, A110_1, c110_1, e110, hx110_0, hx110_1, hx110_2, hx110_3, hl110_1, hi110_1⟩ := at_T29 HR0.out x7_1 p110 q110
                        obtain rfl : ad108 = ad110 := (by injection e110)
                        have HR110_1 := Aside0.mk hi110_1
                        have HC110_1 := Aside0.mk hl110_1
                        clear hi110_1 hl110_1
                        replace p110 := eq_true p110
                        replace q110 := eq_true q110
                        have ea_ := Option.some.inj (hx108_1.symm.trans hx110_1)
                        injection ea_ with ea_ en_ ec_
                        subst ea_
                        subst ec_
                        clear en_
                        have p111 : 0 ≤ (x7_1 : Int) := of_decide_eq_true (by first | (with_reducible assumption) | assumption)
                        have q111 : x7_1 < (l1.length : Int) := of_decide_eq_true (by first | (with_reducible assumption) | assumption)
                        obtain ⟨ad111, A111_1, c111_1, e111, hx111_0, hx111_1, hx111_2, hx111_3, hl111_1, hi111_1⟩ := at_T29 HR1.out x7_1 p111 q111
                        obtain rfl : ad109 = ad111 := (by injection e111)
                        have HR111_1 := Aside0.mk hi111_1
                        have HC111_1 := Aside0.mk hl111_1
                        clear hi111_1 hl111_1
                        replace p111 := eq_true p111
                        replace q111 := eq_true q111
                        have ea_ := Option.some.inj (hx109_1.symm.trans hx111_1)
                        injection ea_ with ea_ en_ ec_
                        subst ea_
                        subst ec_
                        clear en_
                        have p112 : 0 ≤ (x7_1 : Int) := of_decide_eq_true (by first | (with_reducible assumption) | assumption)
                        have q112 : x7_1 < (l0.length : Int) := of_decide_eq_true (by first | (with_reducible assumption) | assumption)
                        obtain ⟨ad112, A112_1, c112_1, e112, hx112_0, hx112_1, hx112_2, hx112_3, hl112_1, hi112_1⟩ := at_T29 HR0.out x7_1 p112 q112
                        obtain rfl : ad108 = ad112 := (by injection e112)
                        have HR112_1 := Aside0.mk hi112_1
                        have HC112_1 := Aside0.mk hl112_1
                        clear hi112_1 hl112_1
                        replace p112 := eq_true p112
                        replace q112 := eq_true q112
                        have ea_ := Option.some.inj (hx108_1.symm.trans hx112_1)
                        injection ea_ with ea_ en_ ec_
                        subst ea_
                        subst ec_
                        clear en_
                        have p113 : 0 ≤ (x7_1 : Int) := of_decide_eq_true (by first | (with_reducible assumption) | assumption)
                        have q113 : x7_1 < (l1.length : Int) := of_decide_eq_true (by first | (with_reducible assumption) | assumption)
                        obtain ⟨ad113, A113_1, c113_1, e113, hx113_0, hx113_1, hx113_2, hx113_3, hl113_1, hi113_1⟩ := at_T29 HR1.out x7_1 p113 q113
                        obtain rfl : ad109 = ad113 := (by injection e113)
                        have HR113_1 := Aside0.mk hi113_1
                        have HC113_1 := Aside0.mk hl113_1
                        clear hi113_1 hl113_1
                        replace p113 := eq_true p113
                        replace q113 := eq_true q113
                        have ea_ := Option.some.inj (hx109_1.symm.trans hx113_1)
                        injection ea_ with ea_ en_ ec_
                        subst ea_
                        subst ec_
                        clear en_
                        have p114 : 0 ≤ (x7_1 : Int) := of_decide_eq_true (by first | (with_reducible assumption) | assumption)
                        have q114 : x7_1 < (l0.length : Int) := of_decide_eq_true (by first | (with_reducible assumption) | assumption)
                        obtain ⟨ad114, A114_1, c114_1, e114, hx114_0, hx114_1, hx114_2, hx114_3, hl114_1, hi114_1⟩ := at_T29 HR0.out x7_1 p114 q114
                        obtain rfl : ad108 = ad114 := (by injection e114)
                        have HR114_1 := Aside0.mk hi114_1
                        have HC114_1 := Aside0.mk hl114_1
                        clear hi114_1 hl114_1
                        replace p114 := eq_true p114
                        replace q114 := eq_true q114
                        have ea_ := Option.some.inj (hx108_1.symm.trans hx114_1)
                        injection ea_ with ea_ en_ ec_
                        subst ea_
                        subst ec_
                        clear en_
                        have p115 : 0 ≤ (x7_1 : Int) := of_decide_eq_true (by first | (with_reducible assumption) | assumption)
                        have q115 : x7_1 < (l1.length : Int) := of_decide_eq_true (by first | (with_reducible assumption) | assumption)
                        obtain ⟨ad115, A115_1, c115_1, e115, hx115_0, hx115_1, hx115_2, hx115_3, hl115_1, hi115_1⟩ := at_T29 HR1.out x7_1 p115 q115
                        obtain rfl : ad109 = ad115 := (by injection e115)
                        have HR115_1 := Aside0.mk hi115_1
                        have HC115_1 := Aside0.mk hl115_1
                        clear hi115_1 hl115_1
                        replace p115 := eq_true p115
                        replace q115 := eq_true q115
                        have ea_ := Option.some.inj (hx109_1.symm.trans hx115_1)
                        injection ea_ with ea_ en_ ec_
                        subst ea_
                        subst ec_
                        clear en_
                        go_wp2
                        repeat (go_quiet (fail); try go_wp2)
                        go_meet
                        case rel => exact ⟨_, (((((rd_T29 l0 x7_1).f1).length : Int) != (((rd_T29 l1 x7_1).f1).length : Int))), (by first | rfl | (simp; done) | (simp [*]; done) | exact isEmpty_bne _), H', ⟨by have := HK1.out; first | omega | exact Nat.le_refl _⟩, by repeat (first | exact Drawn0.refl _ | apply Drawn0.step)⟩
                      · rw [if_neg c12] at H
                        have c12b0 : (((rd_T29 l0 x7_1).f3) == ((rd_T29 l1 x7_1).f3)) = false := beq_eq_false_iff_ne.mpr c12
                        have c12b1 : (((rd_T29 l0 x7_1).f3) != ((rd_T29 l1 x7_1).f3)) = true := bne_iff_ne.mpr c12
                        have H' := Aside0.mk H
                        clear H
                        have p108 : 0 ≤ (x7_1 : Int) := of_decide_eq_true (by first | (with_reducible assumption) | assumption)
                        have q108 : x7_1 < (l0.length : Int) := of_decide_eq_true (by first | (with_reducible assumption) | assumption)
                        obtain ⟨ad108, A108_1, c108_1, e108, hx108_0, hx108_1, hx108_2, hx108_3, hl108_1, hi108_1⟩ := at_T29 HR0.out x7_1 p108 q108
                        cases e108
                        have HR108_1 := Aside0.mk hi108_1
                        have HC108_1 := Aside0.mk hl108_1
                        clear hi108_1 hl108_1
                        replace p108 := eq_true p108
                        replace q108 := eq_true q108
                        have p109 : 0 ≤ (x7_1 : Int) := of_decide_eq_true (by first | (with_reducible assumption) | assumption)
                        have q109 : x7_1 < (l1.length : Int) := of_decide_eq_true (by first | (with_reducible assumption) | assumption)
                        obtain ⟨ad109, A109_1, c109_1, e109, hx109_0, hx109_1, hx109_2, hx109_3, hl109_1, hi109_1⟩ := at_T29 HR1.out x7_1 p109 q109
                        cases e109
                        have HR109_1 := Aside0.mk hi109_1
                        have HC109_1 := Aside0.mk hl109_1
                        clear hi109_1 hl109_1
                        replace p109 := eq_true p109
                        replace q109 := eq_true q109
                        have p110 : 0 ≤ (x7_1 : Int) := of_decide_eq_true (by first | (with_reducible assumption) | assumption)
                        have q110 : x7_1 < (l0.length : Int) := of_decide_eq_true (by first | (with_reducible assumption) | assumption)
                        obtain ⟨ad110, A110_1, c110_1, e110, hx110_0, hx110_1, hx110_2, hx110_3, hl110_1, hi110_1⟩ := at_T29 HR0.out x7_1 p110 q110
                        obtain rfl : ad108 = ad110 := (by injection e110)
                        have HR110_1 := Aside0.mk hi110_1
                        have HC110_1 := Aside0.mk hl110_1
                        clear hi110_1 hl110_1
                        replace p110 := eq_true p110
                        replace q110 := eq_true q110
                        have ea_ := Option.some.inj (hx108_1.symm.trans hx110_1)
                        injection ea_ with ea_ en_ ec_
                        subst ea_
                        subst ec_
                        clear en_
                        have p111 : 0 ≤ (x7_1 : Int) := of_decide_eq_true (by first | (with_reducible assumption) | assumption)
                        have q111 : x7_1 < (l1.length : Int) := of_decide_eq_true (by first | (with_reducible assumption) | assumption)
                        obtain ⟨ad111, A111_1, c111_1, e111, hx111_0, hx111_1, hx111_2, hx111_3, hl111_1, hi111_1⟩ := at_T29 HR1.out x7_1 p111 q111
                        obtain rfl : ad109 = ad111 := (by injection e111)
                        have HR111_1 := Aside0.mk hi111_1
                        have HC111_1 := Aside0.mk hl111_1
                        clear hi111_1 hl111_1
                        replace p111 := eq_true p111
                        replace q111 := eq_true q111
                        have ea_ := Option.some.inj (hx109_1.symm.trans hx111_1)
                        injection ea_ with ea_ en_ ec_
                        subst ea_
                        subst ec_
                        clear en_
                        have p112 : 0 ≤ (x7_1 : Int) := of_decide_eq_true (by first | (with_reducible assumption) | assumption)
                        have q112 : x7_1 < (l0.length : Int) := of_decide_eq_true (by first | (with_reducible assumption) | assumption)
                        obtain ⟨ad112, A112_1, c112_1, e112, hx112_0, hx112_1, hx112_2, hx112_3, hl112_1, hi112_1⟩ := at_T29 HR0.out x7_1 p112 q112
                        obtain rfl : ad108 = ad112 := (by injection e112)
                        have HR112_1 := Aside0.mk hi112_1
                        have HC112_1 := Aside0.mk hl112_1
                        clear hi112_1 hl112_1
                        replace p112 := eq_true p112
                        replace q112 := eq_true q112
                        have ea_ := Option.some.inj (hx108_1.symm.trans hx112_1)
                        injection ea_ with ea_ en_ ec_
                        subst ea_
                        subst ec_
                        clear en_
                        have p113 : 0 ≤ (x7_1 : Int) := of_decide_eq_true (by first | (with_reducible assumption) | assumption)
                        have q113 : x7_1 < (l1.length : Int) := of_decide_eq_true (by first | (with_reducible assumption) | assumption)
                        obtain ⟨ad113, A113_1, c113_1, e113, hx113_0, hx113_1, hx113_2, hx113_3, hl113_1, hi113_1⟩ := at_T29 HR1.out x7_1 p113 q113
                        obtain rfl : ad109 = ad113 := (by injection e113)
                        have HR113_1 := Aside0.mk hi113_1
                        have HC113_1 := Aside0.mk hl113_1
                        clear hi113_1 hl113_1
                        replace p113 := eq_true p113
                        replace q113 := eq_true q113
                        have ea_ := Option.some.inj (hx109_1.symm.trans hx113_1)
                        injection ea_ with ea_ en_ ec_
                        subst ea_
                        subst ec_
                        clear en_
                        go_wp2
                        repeat (go_quiet (fail); try go_wp2)
                        go_meet
                        case rel => exact ⟨_, (true), (by first | rfl | (simp; done) | (simp [*]; done) | exact isEmpty_bne _), H', ⟨by have := HK1.out; first | omega | exact Nat.le_refl _⟩, by repeat (first | exact Drawn0.refl _ | apply Drawn0.step)⟩
                    · replace c11 := Bool.eq_false_iff.mpr c11
                      subst c11
                      have H1 : (hatstandref3_Same.j1 k1 l0 l1 false x7_1 ((((rd_T29 l0 x7_1).f1).length : Int) != (((rd_T29 l1 x7_1).f1).length : Int))) = some r := by rw [if_neg (show ¬ (false = true) by decide)] at H; exact H
                      clear H
                      have H := H1
                      clear H1
                      have H' := Aside0.mk H
                      clear H
                      have p108 : 0 ≤ (x7_1 : Int) := of_decide_eq_true (by first | (with_reducible assumption) | assumption)
                      have q108 : x7_1 < (l0.length : Int) := of_decide_eq_true (by first | (with_reducible assumption) | assumption)
                      obtain ⟨ad108, A108_1, c108_1, e108, hx108_0, hx108_1, hx108_2, hx108_3, hl108_1, hi108_1⟩ := at_T29 HR0.out x7_1 p108 q108
                      cases e108
                      have HR108_1 := Aside0.mk hi108_1
                      have HC108_1 := Aside0.mk hl108_1
                      clear hi108_1 hl108_1
                      replace p108 := eq_true p108
                      replace q108 := eq_true q108
                      have p109 : 0 ≤ (x7_1 : Int) := of_decide_eq_true (by first | (with_reducible assumption) | assumption)
                      have q109 : x7_1 < (l1.length : Int) := of_decide_eq_true (by first | (with_reducible assumption) | assumption)
                      obtain ⟨ad109, A109_1, c109_1, e109, hx109_0, hx109_1, hx109_2, hx109_3, hl109_1, hi109_1⟩ := at_T29 HR1.out x7_1 p109 q109
                      cases e109
                      have HR109_1 := Aside0.mk hi109_1
                      have HC109_1 := Aside0.mk hl109_1
                      clear hi109_1 hl109_1
                      replace p109 := eq_true p109
                      replace q109 := eq_true q109
                      have p110 : 0 ≤ (x7_1 : Int) := of_decide_eq_true (by first | (with_reducible assumption) | assumption)
                      have q110 : x7_1 < (l0.length : Int) := of_decide_eq_true (by first | (with_reducible assumption) | assumption)
                      obtain ⟨ad110, A110_1, c110_1, e110, hx110_0, hx110_1, hx110_2, hx110_3, hl110_1, hi110_1⟩ := at_T29 HR0.out x7_1 p110 q110
                      obtain rfl : ad108 = ad110 := (by injection e110)
                      have HR110_1 := Aside0.mk hi110_1
                      have HC110_1 := Aside0.mk hl110_1
                      clear hi110_1 hl110_1
                      replace p110 := eq_true p110
                      replace q110 := eq_true q110
                      have ea_ := Option.some.inj (hx108_1.symm.trans hx110_1)
                      injection ea_ with ea_ en_ ec_
                      subst ea_
                      subst ec_
                      clear en_
                      have p111 : 0 ≤ (x7_1 : Int) := of_decide_eq_true (by first | (with_reducible assumption) | assumption)
                      have q111 : x7_1 < (l1.length : Int) := of_decide_eq_true (by first | (with_reducible assumption) | assumption)
                      obtain ⟨ad111, A111_1, c111_1, e111, hx111_0, hx111_1, hx111_2, hx111_3, hl111_1, hi111_1⟩ := at_T29 HR1.out x7_1 p111 q111
                      obtain rfl : ad109 = ad111 := (by injection e111)
                      have HR111_1 := Aside0.mk hi111_1
                      have HC111_1 := Aside0.mk hl111_1
                      clear hi111_1 hl111_1
                      replace p111 := eq_true p111
                      replace q111 := eq_true q111
                      have ea_ := Option.some.inj (hx109_1.symm.trans hx111_1)
                      injection ea_ with ea_ en_ ec_
                      subst ea_
                      subst ec_
                      clear en_
                      have p116 : 0 ≤ (x7_1 : Int) := of_decide_eq_true (by first | (with_reducible assumption) | assumption)
                      have q116 : x7_1 < (l0.length : Int) := of_decide_eq_true (by first | (with_reducible assumption) | assumption)
                      obtain ⟨ad116, A116_1, c116_1, e116, hx116_0, hx116_1, hx116_2, hx116_3, hl116_1, hi116_1⟩ := at_T29 HR0.out x7_1 p116 q116
                      obtain rfl : ad108 = ad116 := (by injection e116)
                      have HR116_1 := Aside0.mk hi116_1
                      have HC116_1 := Aside0.mk hl116_1
                      clear hi116_1 hl116_1
                      replace p116 := eq_true p116
                      replace q116 := eq_true q116
                      have ea_ := Option.some.inj (hx108_1.symm.trans hx116_1)
                      injection ea_ with ea_ en_ ec_
                      subst ea_
                      subst ec_
                      clear en_
                      have p117 : 0 ≤ (x7_1 : Int) := of_decide_eq_true (by first | (with_reducible assumption) | assumption)
                      have q117 : x7_1 < (l1.length : Int) := of_decide_eq_true (by first | (with_reducible assumption) | assumption)
                      obtain ⟨ad117, A117_1, c117_1, e117, hx117_0, hx117_1, hx117_2, hx117_3, hl117_1, hi117_1⟩ := at_T29 HR1.out x7_1 p117 q117
                      obtain rfl : ad109 = ad117 := (by injection e117)
                      have HR117_1 := Aside0.mk hi117_1
                      have HC117_1 := Aside0.mk hl117_1
                      clear hi117_1 hl117_1
                      replace p117 := eq_true p117
                      replace q117 := eq_true q117
                      have ea_ := Option.some.inj (hx109_1.symm.trans hx117_1)
                      injection ea_ with ea_ en_ ec_
                      subst ea_
                      subst ec_
                      clear en_
                      go_wp2
                      repeat (go_quiet (fail); try go_wp2)
                      go_meet
                      case rel => exact ⟨_, (((((rd_T29 l0 x7_1).f1).length : Int) != (((rd_T29 l1 x7_1).f1).length : Int))), (by first | rfl | (simp; done) | (simp [*]; done) | exact isEmpty_bne _), H', ⟨by have := HK1.out; first | omega | exact Nat.le_refl _⟩, by repeat (first | exact Drawn0.refl _ | apply Drawn0.step)⟩
                · rw [if_neg c9] at H
                  have c9b0 : (((rd_T29 l0 x7_1).f0) == ((rd_T29 l1 x7_1).f0)) = false := beq_eq_false_iff_ne.mpr c9
                  have c9b1 : (((rd_T29 l0 x7_1).f0) != ((rd_T29 l1 x7_1).f0)) = true := bne_iff_ne.mpr c9
                  have H' := Aside0.mk H
                  clear H
                  have p108 : 0 ≤ (x7_1 : Int) := of_decide_eq_true (by first | (with_reducible assumption) | assumption)
                  have q108 : x7_1 < (l0.length : Int) := of_decide_eq_true (by first | (with_reducible assumption) | assumption)
                  obtain ⟨ad108, A108_1, c108_1, e108, hx108_0, hx108_1, hx108_2, hx108_3, hl108_1, hi108_1⟩ := at_T29 HR0.out x7_1 p108 q108
                  cases e108
                  have HR108_1 := Aside0.mk hi108_1
                  have HC108_1 := Aside0.mk hl108_1
                  clear hi108_1 hl108_1
                  replace p108 := eq_true p108
                  replace q108 := eq_true q108
                  have p109 : 0 ≤ (x7_1 : Int) := of_decide_eq_true (by first | (with_reducible assumption) | assumption)
                  have q109 : x7_1 < (l1.length : Int) := of_decide_eq_true (by first | (with_reducible assumption) | assumption)
                  obtain ⟨ad109, A109_1, c109_1, e109, hx109_0, hx109_1, hx109_2, hx109_3, hl109_1, hi109_1⟩ := at_T29 HR1.out x7_1 p109 q109
                  cases e109
                  have HR109_1 := Aside0.mk hi109_1
                  have HC109_1 := Aside0.mk hl109_1
                  clear hi109_1 hl109_1
                  replace p109 := eq_true p109
                  replace q109 := eq_true q109
                  go_wp2
                  repeat (go_quiet (fail); try go_wp2)
                  go_meet
                  case rel => exact ⟨_, (true), (by first | rfl | (simp; done) | (simp [*]; done) | exact isEmpty_bne _), H', ⟨by have := HK1.out; first | omega | exact Nat.le_refl _⟩, by repeat (first | exact Drawn0.refl _ | apply Drawn0.step)⟩
              · rw [if_neg c8] at H
                exact absurd H (by simp)
            · rw [if_neg c7] at H
              exact absurd H (by simp)
          case rest =>
            clear HC6
            try clear c1
            try clear p1
            try clear q1
            try clear hx1
            try clear p2
            try clear c4
            try clear c4b0
            try clear c4b1
            try clear c4b2
            try clear c5
            try clear c5b0
            try clear c7
            try clear c7b0
            try clear c8
            try clear c8b0
            try clear c9
            try clear c9b0
            try clear c9b1
            try clear c10
            try clear c10b0
            try clear c10b1
            try clear c10b2
            try clear p10
            try clear q10
            try clear hx10
            try clear c11
            try clear p11
            try clear q11
            try clear hx11
            try clear c12
            try clear c12b0
            try clear c12b1
            try clear hx108_0
            try clear hx108_1
            try clear hx108_2
            try clear hx108_3
            try clear hx109_0
            try clear hx109_1
            try clear hx109_2
            try clear hx109_3
            try clear hx110_0
            try clear hx110_1
            try clear hx110_2
            try clear hx110_3
            try clear hx111_0
            try clear hx111_1
            try clear hx111_2
            try clear hx111_3
            try clear hx112_0
            try clear hx112_1
            try clear hx112_2
            try clear hx112_3
            try clear hx113_0
            try clear hx113_1
            try clear hx113_2
            try clear hx113_3
            try clear hx114_0
            try clear hx114_1
            try clear hx114_2
            try clear hx114_3
            try clear hx115_0
            try clear hx115_1
            try clear hx115_2
            try clear hx115_3
            try clear hx116_0
            try clear hx116_1
            try clear hx116_2
            try clear hx116_3
            try clear hx117_0
            try clear hx117_1
            try clear hx117_2
            try clear hx117_3
            try clear p108
            try clear p109
            try clear p110
            try clear p111
            try clear p112
            try clear p113
            try clear p114
            try clear p115
            try clear p116
            try clear p117
            try clear p2
            try clear q108
            try clear q109
            try clear q110
            try clear q111
            try clear q112
            try clear q113
            try clear q114
            try clear q115
            try clear q116
            try clear q117
            obtain ⟨kq, x74_5, rfl, HA, HJ5, ⟨mc5, rfl⟩⟩ := hcut
            cases kq with
            | zero => exact absurd HA.out (by simp [hatstandref3_Same.j1])
            | succ kj5 =>
              have H := HA.out
              clear HA
              simp only [hatstandref3_Same.j1] at H
              by_cases c13 : x74_5 = true
              · subst c13
                have H1 : (some false) = some r := by rw [if_pos rfl] at H; exact H
                clear H
                have H := H1
                clear H1
                obtain rfl := Option.some.inj H
                go_wp2
                repeat (go_quiet (fail); try go_wp2)
                go_ret
                exact ⟨by first | rfl | (simp; done) | (simp [*]; done) | exact isEmpty_bne _, by repeat (first | exact Drawn0.refl _ | apply Drawn0.step)⟩
              · replace c13 := Bool.eq_false_iff.mpr c13
                subst c13
                have H1 : (hatstandref3_Same.l1 kj5 l0 l1 a2 x7_1 0) = some r := by rw [if_neg (show ¬ (false = true) by decide)] at H; exact H
                clear H
                have H := H1
                clear H1
                have H' := Aside0.mk H
                clear H
                go_wp2
                repeat (go_quiet (fail); try go_wp2)
                go_loopg [8] kj5 (fun kq v8 w' => ∃ (x8_3 : Int), v8 = .int .i64 x8_3 ∧ Aside0 (hatstandref3_Same.l1 kq l0 l1 a2 x7_1 x8_3 = some r) ∧ Aside0 (kq ≤ kj5) ∧ Drawn0 w w')
                case atStart => exact ⟨(0), (by first | rfl | (simp; done) | (simp [*]; done) | exact isEmpty_bne _), H', ⟨Nat.le_refl _⟩, by repeat (first | exact Drawn0.refl _ | apply Drawn0.step)⟩
                case round =>
                  clear H'
                  try clear c1
                  try clear p1
                  try clear q1
                  try clear hx1
                  try clear p2
                  try clear c4
                  try clear c4b0
                  try clear c4b1
                  try clear c4b2
                  try clear c5
                  try clear c5b0
                  try clear c7
                  try clear c7b0
                  try clear c8
                  try clear c8b0
                  try clear c9
                  try clear c9b0
                  try clear c9b1
                  try clear c10
                  try clear c10b0
                  try clear c10b1
                  try clear c10b2
                  try clear p10
                  try clear q10
                  try clear hx10
                  try clear c11
                  try clear p11
                  try clear q11
                  try clear hx11
                  try clear c12
                  try clear c12b0
                  try clear c12b1
                  try clear c13
                  try clear hx108_0
                  try clear hx108_1
                  try clear hx108_2
                  try clear hx108_3
                  try clear hx109_0
                  try clear hx109_1
                  try clear hx109_2
                  try clear hx109_3
                  try clear hx110_0
                  try clear hx110_1
                  try clear hx110_2
                  try clear hx110_3
                  try clear hx111_0
                  try clear hx111_1
                  try clear hx111_2
                  try clear hx111_3
                  try clear hx112_0
                  try clear hx112_1
                  try clear hx112_2
                  try clear hx112_3
                  try clear hx113_0
                  try clear hx113_1
                  try clear hx113_2
                  try clear hx113_3
                  try clear hx114_0
                  try clear hx114_1
                  try clear hx114_2
                  try clear hx114_3
                  try clear hx115_0
                  try clear hx115_1
                  try clear hx115_2
                  try clear hx115_3
                  try clear hx116_0
                  try clear hx116_1
                  try clear hx116_2
                  try clear hx116_3
                  try clear hx117_0
                  try clear hx117_1
                  try clear hx117_2
                  try clear hx117_3
                  try clear p1
                  try clear p10
                  try clear p108
                  try clear p109
                  try clear p11
                  try clear p110
                  try clear p111
                  try clear p112
                  try clear p113
                  try clear p114
                  try clear p115
                  try clear p116
                  try clear p117
                  try clear p2
                  try clear q1
                  try clear q10
                  try clear q108
                  try clear q109
                  try clear q11
                  try clear q110
                  try clear q111
                  try clear q112
                  try clear q113
                  try clear q114
                  try clear q115
                  try clear q116
                  try clear q117
                  obtain ⟨x8_3, rfl, HA, HK3, ⟨m3, rfl⟩⟩ := hrel
                  cases gk with
                  | zero => exact absurd HA.out (by simp [hatstandref3_Same.l1])
                  | succ k3 =>
                    have H := HA.out
                    clear HA
                    simp only [hatstandref3_Same.l1] at H
                    by_cases c14 : 0 ≤ x7_1
                    · rw [if_pos c14] at H
                      have c14b0 : decide (0 ≤ x7_1) = true := decide_eq_true c14
                      clear c14
                      by_cases c15 : x7_1 < (l0.length : Int)
                      · rw [if_pos c15] at H
                        have c15b0 : decide (x7_1 < (l0.length : Int)) = true := decide_eq_true c15
                        clear c15
                        by_cases c16 : x8_3 < (((rd_T29 l0 x7_1).f1).length : Int)
                        · rw [if_pos c16] at H
                          have c16b0 : decide (x8_3 < (((rd_T29 l0 x7_1).f1).length : Int)) = true := decide_eq_true c16
                          clear c16
                          by_cases c17 : 0 ≤ x8_3
                          · rw [if_pos c17] at H
                            have c17b0 : decide (0 ≤ x8_3) = true := decide_eq_true c17
                            clear c17
                            by_cases c18 : x7_1 < (l1.length : Int)
                            · rw [if_pos c18] at H
                              have c18b0 : decide (x7_1 < (l1.length : Int)) = true := decide_eq_true c18
                              clear c18
                              by_cases c19 : x8_3 < (((rd_T29 l1 x7_1).f1).length : Int)
                              · rw [if_pos c19] at H
                                have c19b0 : decide (x8_3 < (((rd_T29 l1 x7_1).f1).length : Int)) = true := decide_eq_true c19
                                clear c19
                                by_cases c20 : (rd ((rd_T29 l0 x7_1).f1) x8_3) = (rd ((rd_T29 l1 x7_1).f1) x8_3)
                                · rw [if_pos c20] at H
                                  have c20b0 : ((rd ((rd_T29 l0 x7_1).f1) x8_3) == (rd ((rd_T29 l1 x7_1).f1) x8_3)) = true := beq_iff_eq.mpr c20
                                  have c20b1 : ((rd ((rd_T29 l0 x7_1).f1) x8_3) != (rd ((rd_T29 l1 x7_1).f1) x8_3)) = false := bne_eq_false_iff_eq.mpr c20
                                  clear c20
                                  have H' := Aside0.mk H
                                  clear H
                                  have p118 : 0 ≤ (x7_1 : Int) := of_decide_eq_true (by first | (with_reducible assumption) | assumption)
                                  have q118 : x7_1 < (l0.length : Int) := of_decide_eq_true (by first | (with_reducible assumption) | assumption)
                                  obtain ⟨ad118, A118_1, c118_1, e118, hx118_0, hx118_1, hx118_2, hx118_3, hl118_1, hi118_1⟩ := at_T29 HR0.out x7_1 p118 q118
                                  cases e118
                                  have HR118_1 := Aside0.mk hi118_1
                                  have HC118_1 := Aside0.mk hl118_1
                                  clear hi118_1 hl118_1
                                  replace p118 := eq_true p118
                                  replace q118 := eq_true q118
                                  have p119 : 0 ≤ (x7_1 : Int) := of_decide_eq_true (by first | (with_reducible assumption) | assumption)
                                  have q119 : x7_1 < (l0.length : Int) := of_decide_eq_true (by first | (with_reducible assumption) | assumption)
                                  obtain ⟨ad119, A119_1, c119_1, e119, hx119_0, hx119_1, hx119_2, hx119_3, hl119_1, hi119_1⟩ := at_T29 HR0.out x7_1 p119 q119
                                  obtain rfl : ad118 = ad119 := (by injection e119)
                                  have HR119_1 := Aside0.mk hi119_1
                                  have HC119_1 := Aside0.mk hl119_1
                                  clear hi119_1 hl119_1
                                  replace p119 := eq_true p119
                                  replace q119 := eq_true q119
                                  have ea_ := Option.some.inj (hx118_1.symm.trans hx119_1)
                                  injection ea_ with ea_ en_ ec_
                                  subst ea_
                                  subst ec_
                                  clear en_
                                  have p120 : 0 ≤ (x8_3 : Int) := of_decide_eq_true (by first | (with_reducible assumption) | assumption)
                                  have q120 : x8_3 < (((rd_T29 l0 x7_1).f1).length : Int) := of_decide_eq_true (by first | (with_reducible assumption) | assumption)
                                  obtain ⟨ad120, e120, hx120_0⟩ := Kd.at_int HR119_1.out x8_3 p120 q120
                                  cases e120
                                  replace p120 := eq_true p120
                                  replace q120 := eq_true q120
                                  have p121 : 0 ≤ (x7_1 : Int) := of_decide_eq_true (by first | (with_reducible assumption) | assumption)
                                  have q121 : x7_1 < (l1.length : Int) := of_decide_eq_true (by first | (with_reducible assumption) | assumption)
                                  obtain ⟨ad121, A121_1, c121_1, e121, hx121_0, hx121_1, hx121_2, hx121_3, hl121_1, hi121_1⟩ := at_T29 HR1.out x7_1 p121 q121
                                  cases e121
                                  have HR121_1 := Aside0.mk hi121_1
                                  have HC121_1 := Aside0.mk hl121_1
                                  clear hi121_1 hl121_1
                                  replace p121 := eq_true p121
                                  replace q121 := eq_true q121
                                  have p122 : 0 ≤ (x8_3 : Int) := of_decide_eq_true (by first | (with_reducible assumption) | assumption)
                                  have q122 : x8_3 < (((rd_T29 l1 x7_1).f1).length : Int) := of_decide_eq_true (by first | (with_reducible assumption) | assumption)
                                  obtain ⟨ad122, e122, hx122_0⟩ := Kd.at_int HR121_1.out x8_3 p122 q122
                                  cases e122
                                  replace p122 := eq_true p122
                                  replace q122 := eq_true q122
                                  go_wp2
                                  repeat (go_quiet (fail); try go_wp2)
                                  go_roundg k3
                                  case measure => have := HK1.out; have := HJ5.out; have := HK3.out; omega
                                  case rel => exact ⟨(wrap64 (x8_3 + 1)), (by first | rfl | (simp; done) | (simp [*]; done) | exact isEmpty_bne _), H', ⟨by have := HK1.out; have := HJ5.out; have := HK3.out; omega⟩, by repeat (first | exact Drawn0.refl _ | apply Drawn0.step)⟩
                                · rw [if_neg c20] at H
                                  have c20b0 : ((rd ((rd_T29 l0 x7_1).f1) x8_3) == (rd ((rd_T29 l1 x7_1).f1) x8_3)) = false := beq_eq_false_iff_ne.mpr c20
                                  have c20b1 : ((rd ((rd_T29 l0 x7_1).f1) x8_3) != (rd ((rd_T29 l1 x7_1).f1) x8_3)) = true := bne_iff_ne.mpr c20
                                  obtain rfl := Option.some.inj H
                                  have p118 : 0 ≤ (x7_1 : Int) := of_decide_eq_true (by first | (with_reducible assumption) | assumption)
                                  have q118 : x7_1 < (l0.length : Int) := of_decide_eq_true (by first | (with_reducible assumption) | assumption)
                                  obtain ⟨ad118, A118_1, c118_1, e118, hx118_0, hx118_1, hx118_2, hx118_3, hl118_1, hi118_1⟩ := at_T29 HR0.out x7_1 p118 q118
                                  cases e118
                                  have HR118_1 := Aside0.mk hi118_1
                                  have HC118_1 := Aside0.mk hl118_1
                                  clear hi118_1 hl118_1
                                  replace p118 := eq_true p118
                                  replace q118 := eq_true q118
                                  have p119 : 0 ≤ (x7_1 : Int) := of_decide_eq_true (by first | (with_reducible assumption) | assumption)
                                  have q119 : x7_1 < (l0.length : Int) := of_decide_eq_true (by first | (with_reducible assumption) | assumption)
                                  obtain ⟨ad119, A119_1, c119_1, e119, hx119_0, hx119_1, hx119_2, hx119_3, hl119_1, hi119_1⟩ := at_T29 HR0.out x7_1 p119 q119
                                  obtain rfl : ad118 = ad119 := (by injection e119)
                                  have HR119_1 := Aside0.mk hi119_1
                                  have HC119_1 := Aside0.mk hl119_1
                                  clear hi119_1 hl119_1
                                  replace p119 := eq_true p119
                                  replace q119 := eq_true q119
                                  have ea_ := Option.some.inj (hx118_1.symm.trans hx119_1)
                                  injection ea_ with ea_ en_ ec_
                                  subst ea_
                                  subst ec_
                                  clear en_
                                  have p120 : 0 ≤ (x8_3 : Int) := of_decide_eq_true (by first | (with_reducible assumption) | assumption)
                                  have q120 : x8_3 < (((rd_T29 l0 x7_1).f1).length : Int) := of_decide_eq_true (by first | (with_reducible assumption) | assumption)
                                  obtain ⟨ad120, e120, hx120_0⟩ := Kd.at_int HR119_1.out x8_3 p120 q120
                                  cases e120
                                  replace p120 := eq_true p120
                                  replace q120 := eq_true q120
                                  have p121 : 0 ≤ (x7_1 : Int) := of_decide_eq_true (by first | (with_reducible assumption) | assumption)
                                  have q121 : x7_1 < (l1.length : Int) := of_decide_eq_true (by first | (with_reducible assumption) | assumption)
                                  obtain ⟨ad121, A121_1, c121_1, e121, hx121_0, hx121_1, hx121_2, hx121_3, hl121_1, hi121_1⟩ := at_T29 HR1.out x7_1 p121 q121
                                  cases e121
                                  have HR121_1 := Aside0.mk hi121_1
                                  have HC121_1 := Aside0.mk hl121_1
                                  clear hi121_1 hl121_1
                                  replace p121 := eq_true p121
                                  replace q121 := eq_true q121
                                  have p122 : 0 ≤ (x8_3 : Int) := of_decide_eq_true (by first | (with_reducible assumption) | assumption)
                                  have q122 : x8_3 < (((rd_T29 l1 x7_1).f1).length : Int) := of_decide_eq_true (by first | (with_reducible assumption) | assumption)
                                  obtain ⟨ad122, e122, hx122_0⟩ := Kd.at_int HR121_1.out x8_3 p122 q122
                                  cases e122
                                  replace p122 := eq_true p122
                                  replace q122 := eq_true q122
                                  go_wp2
                                  repeat (go_quiet (fail); try go_wp2)
                                  go_ret
                                  exact ⟨by first | rfl | (simp; done) | (simp [*]; done) | exact isEmpty_bne _, by repeat (first | exact Drawn0.refl _ | apply Drawn0.step)⟩
                              · rw [if_neg c19] at H
                                exact absurd H (by simp)
                            · rw [if_neg c18] at H
                              exact absurd H (by simp)
                          · rw [if_neg c17] at H
                            exact absurd H (by simp)
                        · rw [if_neg c16] at H
                          have c16b0 : decide (x8_3 < (((rd_T29 l0 x7_1).f1).length : Int)) = false := decide_eq_false c16
                          clear c16
                          have H' := Aside0.mk H
                          clear H
                          have p118 : 0 ≤ (x7_1 : Int) := of_decide_eq_true (by first | (with_reducible assumption) | assumption)
                          have q118 : x7_1 < (l0.length : Int) := of_decide_eq_true (by first | (with_reducible assumption) | assumption)
                          obtain ⟨ad118, A118_1, c118_1, e118, hx118_0, hx118_1, hx118_2, hx118_3, hl118_1, hi118_1⟩ := at_T29 HR0.out x7_1 p118 q118
                          cases e118
                          have HR118_1 := Aside0.mk hi118_1
                          have HC118_1 := Aside0.mk hl118_1
                          clear hi118_1 hl118_1
                          replace p118 := eq_true p118
                          replace q118 := eq_true q118
                          go_wp2
                          repeat (go_quiet (fail); try go_wp2)
                          go_roundg k3
                          case measure => have := HK1.out; have := HJ5.out; have := HK3.out; omega
                          case rel => exact ⟨(wrap64 (x7_1 + 1)), (by first | rfl | (simp; done) | (simp [*]; done) | exact isEmpty_bne _), H', ⟨by have := HK1.out; have := HJ5.out; have := HK3.out; omega⟩, by repeat (first | exact Drawn0.refl _ | apply Drawn0.step)⟩
                      · rw [if_neg c15] at H
                        exact absurd H (by simp)
                    · rw [if_neg c14] at H
                      exact absurd H (by simp)
        · rw [if_neg c5] at H
          have c5b0 : decide (x7_1 < (l0.length : Int)) = false := decide_eq_false c5
          clear c5
          obtain rfl := Option.some.inj H
          go_wp2
          repeat (go_quiet (fail); try go_wp2)
          go_ret
          exact ⟨by first | rfl | (simp; done) | (simp [*]; done) | exact isEmpty_bne _, by repeat (first | exact Drawn0.refl _ | apply Drawn0.step)⟩
  · rw [if_neg c4] at H
    have c4b0 : ((l0.length : Int) == (l1.length : Int)) = false := beq_eq_false_iff_ne.mpr c4
    have c4b1 : ((l0.length : Int) != (l1.length : Int)) = true := bne_iff_ne.mpr c4
    have c4b2 : (l0.length == l1.length) = false := by first | simpa using c4 | (simp at c4 ⊢; omega)
    obtain rfl := Option.some.inj H
    go_enter Tryd.func13, Tryd.ntmps13
    go_wp2
    repeat (go_quiet (fail); try go_wp2)
    go_ret
    exact ⟨by first | rfl | (simp; done) | (simp [*]; done) | exact isEmpty_bne _, by repeat (first | exact Drawn0.refl _ | apply Drawn0.step)⟩

end Go.Proofs.YtcldjdngfmakbaaDoor.G

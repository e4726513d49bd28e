-- Written by this session's own program wip/tool/myprint.py over the kit's printer; not trusted: Lean checks it.
import Derived.Test.YtcldjdngfmakbaaDoorG0
import Derived.Test.YtcldjdngfmakbaaDoorG5
import Derived.Test.YtcldjdngfmakbaaDoorGround
namespace Go.Proofs.YtcldjdngfmakbaaDoor.G
open Go.RowKit Go.Proofs.YtcldjdngfmakbaaDoorW.PrintWords Go.Proofs.YtcldjdngfmakbaaDoorW.PrintLast Go.Proofs.YtcldjdngfmakbaaDoorW.PrintMore
attribute [local go_sem] max2_int min2_int max_two min_two max_three min_three max_four min_four   -- for this text's walks alone
set_option linter.unusedVariables false
set_option linter.unusedSimpArgs false

open Go.Proofs.YtcldjdngfmakbaaDoor
/-! ### hatstandref3_Put: function 15 -/
mutual
def hatstandref3_Put.l0 : Nat → List (S29) → ByteArray → Int → Option (ByteArray × Int)
  | 0, _, _, _ => none
  | k + 1, x0, x4, x5 => if x5 < (x0.length : Int) then (if 0 ≤ x5 then (if ((rd_T29 x0 x5).f2 = true) then (if ((rd_T29 x0 x5).f0) < 0 then (hatstandref3_Put.j1 k x0 x4 x5 ((rd_T29 x0 x5).f0) true) else (if ((rd_T29 x0 x5).f0) > 1114111 then (hatstandref3_Put.j1 k x0 x4 x5 ((rd_T29 x0 x5).f0) true) else (if ((rd_T29 x0 x5).f0) ≥ 55296 then (if ((rd_T29 x0 x5).f0) ≤ 57343 then (hatstandref3_Put.j1 k x0 x4 x5 ((rd_T29 x0 x5).f0) true) else (if ((rd_T29 x0 x5).f0) = 65533 then (hatstandref3_Put.j1 k x0 x4 x5 ((rd_T29 x0 x5).f0) true) else ((hatstandref3_Blank.f ((rd_T29 x0 x5).f0)).bind fun t199 => (if t199 = true then (hatstandref3_Put.j1 k x0 x4 x5 ((rd_T29 x0 x5).f0) true) else ((hatstandref3_Number.f ((rd_T29 x0 x5).f0)).bind fun t200 => (hatstandref3_Put.j1 k x0 x4 x5 ((rd_T29 x0 x5).f0) t200)))))) else (if ((rd_T29 x0 x5).f0) = 65533 then (hatstandref3_Put.j1 k x0 x4 x5 ((rd_T29 x0 x5).f0) true) else ((hatstandref3_Blank.f ((rd_T29 x0 x5).f0)).bind fun t201 => (if t201 = true then (hatstandref3_Put.j1 k x0 x4 x5 ((rd_T29 x0 x5).f0) true) else ((hatstandref3_Number.f ((rd_T29 x0 x5).f0)).bind fun t202 => (hatstandref3_Put.j1 k x0 x4 x5 ((rd_T29 x0 x5).f0) t202)))))))) else (hatstandref3_Put.j1 k x0 x4 x5 ((rd_T29 x0 x5).f0) true)) else (none)) else (some (x4, 0))
def hatstandref3_Put.j1 : Nat → List (S29) → ByteArray → Int → Int → Bool → Option (ByteArray × Int)
  | 0, _, _, _, _, _ => none
  | k + 1, x0, x4, x5, x6, x52 => if x52 = true then (some ((⟨#[]⟩ : ByteArray), 1)) else ((hatstandref3_utf8.f x6).bind fun t203 => (if x4.size + t203.size ≤ 9223372036854775807 then (hatstandref3_Put.l1 k x0 (x4 ++ t203) x5 0) else (none)))
def hatstandref3_Put.l1 : Nat → List (S29) → ByteArray → Int → Int → Option (ByteArray × Int)
  | 0, _, _, _, _ => none
  | k + 1, x0, x4, x5, x7 => if 0 ≤ x5 then (if x5 < (x0.length : Int) then (if x7 < (((rd_T29 x0 x5).f1).length : Int) then (if x7 > 0 then (if x4.size + 1 ≤ 9223372036854775807 then (if 0 ≤ x7 then ((hatstandref3_Digits.f k (rd ((rd_T29 x0 x5).f1) x7)).bind fun t207 => (if (x4 ++ (⟨#[44]⟩ : ByteArray)).size + t207.size ≤ 9223372036854775807 then (hatstandref3_Put.l1 k x0 ((x4 ++ (⟨#[44]⟩ : ByteArray)) ++ t207) x5 (wrap64 (x7 + 1))) else (none))) else (none)) else (none)) else (if 0 ≤ x7 then ((hatstandref3_Digits.f k (rd ((rd_T29 x0 x5).f1) x7)).bind fun t210 => (if x4.size + t210.size ≤ 9223372036854775807 then (hatstandref3_Put.l1 k x0 (x4 ++ t210) x5 (wrap64 (x7 + 1))) else (none))) else (none))) else (hatstandref3_Put.l0 k x0 x4 (wrap64 (x5 + 1)))) else (none)) else (none)
end
def hatstandref3_Put.f (k : Nat) (l0 : List (S29)) : Option (ByteArray × Int) := hatstandref3_Put.l0 k l0 (⟨#[]⟩ : ByteArray) 0
theorem hatstandref3_Put.mono_l : ∀ k, (∀ y0 y1 y2, LeO (hatstandref3_Put.l0 k y0 y1 y2) (hatstandref3_Put.l0 (k + 1) y0 y1 y2)) ∧ (∀ y0 y1 y2 y3 y4, LeO (hatstandref3_Put.j1 k y0 y1 y2 y3 y4) (hatstandref3_Put.j1 (k + 1) y0 y1 y2 y3 y4)) ∧ (∀ y0 y1 y2 y3, LeO (hatstandref3_Put.l1 k y0 y1 y2 y3) (hatstandref3_Put.l1 (k + 1) y0 y1 y2 y3))
  | 0 => ⟨fun _ _ _ r h => by simp [hatstandref3_Put.l0] at h, fun _ _ _ _ _ r h => by simp [hatstandref3_Put.j1] at h, fun _ _ _ _ r h => by simp [hatstandref3_Put.l1] at h⟩
  | k + 1 => by
    obtain ⟨ih0, ih1, ih2⟩ := hatstandref3_Put.mono_l k
    refine ⟨?_, ?_, ?_⟩
    · intro y0 y1 y2
      unfold hatstandref3_Put.l0
      repeat' first
      | (with_reducible exact ih0 _ _ _)
      | (with_reducible exact ih1 _ _ _ _ _)
      | (with_reducible exact ih2 _ _ _ _)
      | (with_reducible exact hatstandref3_Digits.mono _ _)
      | (with_reducible exact LeO.refl _)
      | (with_reducible exact LeO.none _)
      | (with_reducible refine LeO.ite ?_ ?_)
      | (with_reducible refine LeO.bind ?_ (fun _ => ?_))
      | exact ih0 _ _ _
      | exact ih1 _ _ _ _ _
      | exact ih2 _ _ _ _
      | exact hatstandref3_Digits.mono _ _
      | exact LeO.none _
      | refine LeO.ite ?_ ?_
      | refine LeO.bind ?_ (fun _ => ?_)
    · intro y0 y1 y2 y3 y4
      unfold hatstandref3_Put.j1
      repeat' first
      | (with_reducible exact ih0 _ _ _)
      | (with_reducible exact ih1 _ _ _ _ _)
      | (with_reducible exact ih2 _ _ _ _)
      | (with_reducible exact hatstandref3_Digits.mono _ _)
      | (with_reducible exact LeO.refl _)
      | (with_reducible exact LeO.none _)
      | (with_reducible refine LeO.ite ?_ ?_)
      | (with_reducible refine LeO.bind ?_ (fun _ => ?_))
      | exact ih0 _ _ _
      | exact ih1 _ _ _ _ _
      | exact ih2 _ _ _ _
      | exact hatstandref3_Digits.mono _ _
      | exact LeO.none _
      | refine LeO.ite ?_ ?_
      | refine LeO.bind ?_ (fun _ => ?_)
    · intro y0 y1 y2 y3
      unfold hatstandref3_Put.l1
      repeat' first
      | (with_reducible exact ih0 _ _ _)
      | (with_reducible exact ih1 _ _ _ _ _)
      | (with_reducible exact ih2 _ _ _ _)
      | (with_reducible exact hatstandref3_Digits.mono _ _)
      | (with_reducible exact LeO.refl _)
      | (with_reducible exact LeO.none _)
      | (with_reducible refine LeO.ite ?_ ?_)
      | (with_reducible refine LeO.bind ?_ (fun _ => ?_))
      | exact ih0 _ _ _
      | exact ih1 _ _ _ _ _
      | exact ih2 _ _ _ _
      | exact hatstandref3_Digits.mono _ _
      | exact LeO.none _
      | refine LeO.ite ?_ ?_
      | refine LeO.bind ?_ (fun _ => ?_)
theorem hatstandref3_Put.mono : ∀ a0 k, LeO (hatstandref3_Put.f k a0) (hatstandref3_Put.f (k + 1) a0) := by
  intro a0 k
  obtain ⟨ih0, ih1, ih2⟩ := hatstandref3_Put.mono_l k
  unfold hatstandref3_Put.f
  repeat' first
      | (with_reducible exact ih0 _ _ _)
      | (with_reducible exact ih1 _ _ _ _ _)
      | (with_reducible exact ih2 _ _ _ _)
      | (with_reducible exact hatstandref3_Digits.mono _ _)
      | (with_reducible exact LeO.refl _)
      | (with_reducible exact LeO.none _)
      | (with_reducible refine LeO.ite ?_ ?_)
      | (with_reducible refine LeO.bind ?_ (fun _ => ?_))
      | exact ih0 _ _ _
      | exact ih1 _ _ _ _ _
      | exact ih2 _ _ _ _
      | exact hatstandref3_Digits.mono _ _
      | exact LeO.none _
      | refine LeO.ite ?_ ?_
      | refine LeO.bind ?_ (fun _ => ?_)
set_option maxHeartbeats 8000000 in
set_option maxRecDepth 100000 in
theorem hatstandref3_Put.calls (k : Nat) (A0 : Option Addr) (c0 : Nat) (l0 : List (S29)) (r1 : ByteArray) (r2 : Int) (w : World) (hr0 : Kd.C k29 w A0 l0.length l0) (hc0 : l0.length ≤ c0) (h : hatstandref3_Put.f k l0 = some (r1, r2)) :
    Calls Tryd.prog 15 #[.slice A0 l0.length c0] w fun e w' => e = .returned (.tuple #[.string r1, .int .i64 r2]) ∧ Below w.heap.size w w' := by
  have HR0 := Aside0.mk hr0
  have HC0 := Aside0.mk hc0
  clear hr0 hc0
  have HB := Aside0.mk (Below.refl w.heap.size w)
  have H : (hatstandref3_Put.l0 k l0 (⟨#[]⟩ : ByteArray) 0) = some (r1, r2) := h
  clear h
  have H' := Aside0.mk H
  clear H
  go_enter Tryd.func15, Tryd.ntmps15
  go_wp2
  go_loopg [4, 5] k (fun kq v4 v5 w' => ∃ (x4_1 : ByteArray) (x5_1 : Int), v4 = .string x4_1 ∧ v5 = .int .i64 x5_1 ∧ Aside0 (hatstandref3_Put.l0 kq l0 x4_1 x5_1 = some (r1, r2)) ∧ Aside0 (kq ≤ k) ∧ Aside0 (Below w.heap.size w w'))
  case atStart => exact ⟨((⟨#[]⟩ : ByteArray)), (0), (by first | rfl | (simp; done) | (simp [*]; done) | exact isEmpty_bne _), (by first | rfl | (simp; done) | (simp [*]; done) | exact isEmpty_bne _), H', ⟨Nat.le_refl _⟩, ⟨by repeat (first | (with_reducible first | exact HB.out | apply below_alloc | apply pw_below_drewN | apply below_drew1) | exact HB.out)⟩⟩
  case round =>
    clear H'
    try clear c1
    obtain ⟨x4_1, x5_1, rfl, rfl, HA, HK1, HB⟩ := hrel
    cases gk with
    | zero => exact absurd HA.out (by simp [hatstandref3_Put.l0])
    | succ k1 =>
      have H := HA.out
      clear HA
      simp only [hatstandref3_Put.l0] at H
      by_cases c2 : x5_1 < (l0.length : Int)
      · rw [if_pos c2] at H
        have c2b0 : decide (x5_1 < (l0.length : Int)) = true := decide_eq_true c2
        clear c2
        by_cases c3 : 0 ≤ x5_1
        · rw [if_pos c3] at H
          have c3b0 : decide (0 ≤ x5_1) = true := decide_eq_true c3
          clear c3
          have HC4 := Aside0.mk H
          clear H
          have p197 : 0 ≤ (x5_1 : Int) := of_decide_eq_true (by first | (with_reducible assumption) | assumption)
          have q197 : x5_1 < (l0.length : Int) := of_decide_eq_true (by first | (with_reducible assumption) | assumption)
          obtain ⟨ad197, A197_1, c197_1, e197, hx197_0, hx197_1, hx197_2, hx197_3, hl197_1, hi197_1⟩ := at_T29 HR0.out x5_1 p197 q197
          cases e197
          replace hx197_0 := (HB.out.cell (World.block_lt_of_cell? w _ hx197_0)).trans hx197_0
          replace hx197_1 := (HB.out.cell (World.block_lt_of_cell? w _ hx197_1)).trans hx197_1
          replace hx197_2 := (HB.out.cell (World.block_lt_of_cell? w _ hx197_2)).trans hx197_2
          replace hx197_3 := (HB.out.cell (World.block_lt_of_cell? w _ hx197_3)).trans hx197_3
          have HR197_1 := Aside0.mk hi197_1
          have HC197_1 := Aside0.mk hl197_1
          clear hi197_1 hl197_1
          replace p197 := eq_true p197
          replace q197 := eq_true q197
          go_upto_region 6 with (fail)
          go_cut [52] (fun v52 wc => ∃ (kq : Nat) (x52_3 : Bool), v52 = .bool x52_3 ∧ Aside0 (hatstandref3_Put.j1 kq l0 x4_1 x5_1 ((rd_T29 l0 x5_1).f0) x52_3 = some (r1, r2)) ∧ Aside0 (kq ≤ k1) ∧ Aside0 (Below w.heap.size w wc))
          case first =>
            have H := HC4.out
            clear HC4
            obtain ⟨bq5, hbq5⟩ : ∃ b_ : Bool, b_ = ((rd_T29 l0 x5_1).f2) := ⟨_, rfl⟩
            (try rw [← hbq5] at hx197_2)
            replace H : (if (bq5 = true) then (if ((rd_T29 l0 x5_1).f0) < 0 then (hatstandref3_Put.j1 k1 l0 x4_1 x5_1 ((rd_T29 l0 x5_1).f0) true) else (if ((rd_T29 l0 x5_1).f0) > 1114111 then (hatstandref3_Put.j1 k1 l0 x4_1 x5_1 ((rd_T29 l0 x5_1).f0) true) else (if ((rd_T29 l0 x5_1).f0) ≥ 55296 then (if ((rd_T29 l0 x5_1).f0) ≤ 57343 then (hatstandref3_Put.j1 k1 l0 x4_1 x5_1 ((rd_T29 l0 x5_1).f0) true) else (if ((rd_T29 l0 x5_1).f0) = 65533 then (hatstandref3_Put.j1 k1 l0 x4_1 x5_1 ((rd_T29 l0 x5_1).f0) true) else ((hatstandref3_Blank.f ((rd_T29 l0 x5_1).f0)).bind fun t199 => (if t199 = true then (hatstandref3_Put.j1 k1 l0 x4_1 x5_1 ((rd_T29 l0 x5_1).f0) true) else ((hatstandref3_Number.f ((rd_T29 l0 x5_1).f0)).bind fun t200 => (hatstandref3_Put.j1 k1 l0 x4_1 x5_1 ((rd_T29 l0 x5_1).f0) t200)))))) else (if ((rd_T29 l0 x5_1).f0) = 65533 then (hatstandref3_Put.j1 k1 l0 x4_1 x5_1 ((rd_T29 l0 x5_1).f0) true) else ((hatstandref3_Blank.f ((rd_T29 l0 x5_1).f0)).bind fun t201 => (if t201 = true then (hatstandref3_Put.j1 k1 l0 x4_1 x5_1 ((rd_T29 l0 x5_1).f0) true) else ((hatstandref3_Number.f ((rd_T29 l0 x5_1).f0)).bind fun t202 => (hatstandref3_Put.j1 k1 l0 x4_1 x5_1 ((rd_T29 l0 x5_1).f0) t202)))))))) else (hatstandref3_Put.j1 k1 l0 x4_1 x5_1 ((rd_T29 l0 x5_1).f0) true)) = some (r1, r2) := by rw [← hbq5] at H; exact H
            have Nbq5 := Aside0.mk hbq5
            clear hbq5
            (try rw [← Nbq5.out])
            by_cases c6 : (bq5 = true)
            · subst c6
              have H1 : (if ((rd_T29 l0 x5_1).f0) < 0 then (hatstandref3_Put.j1 k1 l0 x4_1 x5_1 ((rd_T29 l0 x5_1).f0) true) else (if ((rd_T29 l0 x5_1).f0) > 1114111 then (hatstandref3_Put.j1 k1 l0 x4_1 x5_1 ((rd_T29 l0 x5_1).f0) true) else (if ((rd_T29 l0 x5_1).f0) ≥ 55296 then (if ((rd_T29 l0 x5_1).f0) ≤ 57343 then (hatstandref3_Put.j1 k1 l0 x4_1 x5_1 ((rd_T29 l0 x5_1).f0) true) else (if ((rd_T29 l0 x5_1).f0) = 65533 then (hatstandref3_Put.j1 k1 l0 x4_1 x5_1 ((rd_T29 l0 x5_1).f0) true) else ((hatstandref3_Blank.f ((rd_T29 l0 x5_1).f0)).bind fun t199 => (if t199 = true then (hatstandref3_Put.j1 k1 l0 x4_1 x5_1 ((rd_T29 l0 x5_1).f0) true) else ((hatstandref3_Number.f ((rd_T29 l0 x5_1).f0)).bind fun t200 => (hatstandref3_Put.j1 k1 l0 x4_1 x5_1 ((rd_T29 l0 x5_1).f0) t200)))))) else (if ((rd_T29 l0 x5_1).f0) = 65533 then (hatstandref3_Put.j1 k1 l0 x4_1 x5_1 ((rd_T29 l0 x5_1).f0) true) else ((hatstandref3_Blank.f ((rd_T29 l0 x5_1).f0)).bind fun t201 => (if t201 = true then (hatstandref3_Put.j1 k1 l0 x4_1 x5_1 ((rd_T29 l0 x5_1).f0) true) else ((hatstandref3_Number.f ((rd_T29 l0 x5_1).f0)).bind fun t202 => (hatstandref3_Put.j1 k1 l0 x4_1 x5_1 ((rd_T29 l0 x5_1).f0) t202)))))))) = some (r1, r2) := by rw [if_pos rfl] at H; exact H
              clear H
              have H := H1
              clear H1
              by_cases c7 : ((rd_T29 l0 x5_1).f0) < 0
              · rw [if_pos c7] at H
                have c7b0 : decide (((rd_T29 l0 x5_1).f0) < 0) = true := decide_eq_true c7
                clear c7
                have H' := Aside0.mk H
                clear H
                have p198 : 0 ≤ (x5_1 : Int) := of_decide_eq_true (by first | (with_reducible assumption) | assumption)
                have q198 : x5_1 < (l0.length : Int) := of_decide_eq_true (by first | (with_reducible assumption) | assumption)
                obtain ⟨ad198, A198_1, c198_1, e198, hx198_0, hx198_1, hx198_2, hx198_3, hl198_1, hi198_1⟩ := at_T29 HR0.out x5_1 p198 q198
                (try rw [← Nbq5.out] at hx198_2)
                obtain rfl : ad197 = ad198 := (by injection e198)
                replace hx198_0 := (HB.out.cell (World.block_lt_of_cell? w _ hx198_0)).trans hx198_0
                replace hx198_1 := (HB.out.cell (World.block_lt_of_cell? w _ hx198_1)).trans hx198_1
                replace hx198_2 := (HB.out.cell (World.block_lt_of_cell? w _ hx198_2)).trans hx198_2
                replace hx198_3 := (HB.out.cell (World.block_lt_of_cell? w _ hx198_3)).trans hx198_3
                have HR198_1 := Aside0.mk hi198_1
                have HC198_1 := Aside0.mk hl198_1
                clear hi198_1 hl198_1
                replace p198 := eq_true p198
                replace q198 := eq_true q198
                go_wp2
                go_meet
                case rel => exact ⟨_, (true), (by first | rfl | (simp; done) | (simp [*]; done) | exact isEmpty_bne _), H', ⟨by have := HK1.out; first | omega | exact Nat.le_refl _⟩, ⟨by repeat (first | (with_reducible first | exact HB.out | apply below_alloc | apply pw_below_drewN | apply below_drew1) | exact HB.out)⟩⟩
              · rw [if_neg c7] at H
                have c7b0 : decide (((rd_T29 l0 x5_1).f0) < 0) = false := decide_eq_false c7
                clear c7
                by_cases c8 : ((rd_T29 l0 x5_1).f0) > 1114111
                · rw [if_pos c8] at H
                  have c8b0 : decide (1114111 < ((rd_T29 l0 x5_1).f0)) = true := decide_eq_true c8
                  clear c8
                  have H' := Aside0.mk H
                  clear H
                  have p198 : 0 ≤ (x5_1 : Int) := of_decide_eq_true (by first | (with_reducible assumption) | assumption)
                  have q198 : x5_1 < (l0.length : Int) := of_decide_eq_true (by first | (with_reducible assumption) | assumption)
                  obtain ⟨ad198, A198_1, c198_1, e198, hx198_0, hx198_1, hx198_2, hx198_3, hl198_1, hi198_1⟩ := at_T29 HR0.out x5_1 p198 q198
                  (try rw [← Nbq5.out] at hx198_2)
                  obtain rfl : ad197 = ad198 := (by injection e198)
                  replace hx198_0 := (HB.out.cell (World.block_lt_of_cell? w _ hx198_0)).trans hx198_0
                  replace hx198_1 := (HB.out.cell (World.block_lt_of_cell? w _ hx198_1)).trans hx198_1
                  replace hx198_2 := (HB.out.cell (World.block_lt_of_cell? w _ hx198_2)).trans hx198_2
                  replace hx198_3 := (HB.out.cell (World.block_lt_of_cell? w _ hx198_3)).trans hx198_3
                  have HR198_1 := Aside0.mk hi198_1
                  have HC198_1 := Aside0.mk hl198_1
                  clear hi198_1 hl198_1
                  replace p198 := eq_true p198
                  replace q198 := eq_true q198
                  go_wp2
                  go_meet
                  case rel => exact ⟨_, (true), (by first | rfl | (simp; done) | (simp [*]; done) | exact isEmpty_bne _), H', ⟨by have := HK1.out; first | omega | exact Nat.le_refl _⟩, ⟨by repeat (first | (with_reducible first | exact HB.out | apply below_alloc | apply pw_below_drewN | apply below_drew1) | exact HB.out)⟩⟩
                · rw [if_neg c8] at H
                  have c8b0 : decide (1114111 < ((rd_T29 l0 x5_1).f0)) = false := decide_eq_false c8
                  clear c8
                  by_cases c9 : ((rd_T29 l0 x5_1).f0) ≥ 55296
                  · rw [if_pos c9] at H
                    have c9b0 : decide (55296 ≤ ((rd_T29 l0 x5_1).f0)) = true := decide_eq_true c9
                    clear c9
                    by_cases c10 : ((rd_T29 l0 x5_1).f0) ≤ 57343
                    · rw [if_pos c10] at H
                      have c10b0 : decide (((rd_T29 l0 x5_1).f0) ≤ 57343) = true := decide_eq_true c10
                      clear c10
                      have H' := Aside0.mk H
                      clear H
                      have p198 : 0 ≤ (x5_1 : Int) := of_decide_eq_true (by first | (with_reducible assumption) | assumption)
                      have q198 : x5_1 < (l0.length : Int) := of_decide_eq_true (by first | (with_reducible assumption) | assumption)
                      obtain ⟨ad198, A198_1, c198_1, e198, hx198_0, hx198_1, hx198_2, hx198_3, hl198_1, hi198_1⟩ := at_T29 HR0.out x5_1 p198 q198
                      (try rw [← Nbq5.out] at hx198_2)
                      obtain rfl : ad197 = ad198 := (by injection e198)
                      replace hx198_0 := (HB.out.cell (World.block_lt_of_cell? w _ hx198_0)).trans hx198_0
                      replace hx198_1 := (HB.out.cell (World.block_lt_of_cell? w _ hx198_1)).trans hx198_1
                      replace hx198_2 := (HB.out.cell (World.block_lt_of_cell? w _ hx198_2)).trans hx198_2
                      replace hx198_3 := (HB.out.cell (World.block_lt_of_cell? w _ hx198_3)).trans hx198_3
                      have HR198_1 := Aside0.mk hi198_1
                      have HC198_1 := Aside0.mk hl198_1
                      clear hi198_1 hl198_1
                      replace p198 := eq_true p198
                      replace q198 := eq_true q198
                      go_wp2
                      go_meet
                      case rel => exact ⟨_, (true), (by first | rfl | (simp; done) | (simp [*]; done) | exact isEmpty_bne _), H', ⟨by have := HK1.out; first | omega | exact Nat.le_refl _⟩, ⟨by repeat (first | (with_reducible first | exact HB.out | apply below_alloc | apply pw_below_drewN | apply below_drew1) | exact HB.out)⟩⟩
                    · rw [if_neg c10] at H
                      have c10b0 : decide (((rd_T29 l0 x5_1).f0) ≤ 57343) = false := decide_eq_false c10
                      clear c10
                      by_cases c11 : ((rd_T29 l0 x5_1).f0) = 65533
                      · rw [if_pos c11] at H
                        have c11b0 : (((rd_T29 l0 x5_1).f0) == 65533) = true := beq_iff_eq.mpr c11
                        have c11b1 : (((rd_T29 l0 x5_1).f0) != 65533) = false := bne_eq_false_iff_eq.mpr c11
                        clear c11
                        have H' := Aside0.mk H
                        clear H
                        have p198 : 0 ≤ (x5_1 : Int) := of_decide_eq_true (by first | (with_reducible assumption) | assumption)
                        have q198 : x5_1 < (l0.length : Int) := of_decide_eq_true (by first | (with_reducible assumption) | assumption)
                        obtain ⟨ad198, A198_1, c198_1, e198, hx198_0, hx198_1, hx198_2, hx198_3, hl198_1, hi198_1⟩ := at_T29 HR0.out x5_1 p198 q198
                        (try rw [← Nbq5.out] at hx198_2)
                        obtain rfl : ad197 = ad198 := (by injection e198)
                        replace hx198_0 := (HB.out.cell (World.block_lt_of_cell? w _ hx198_0)).trans hx198_0
                        replace hx198_1 := (HB.out.cell (World.block_lt_of_cell? w _ hx198_1)).trans hx198_1
                        replace hx198_2 := (HB.out.cell (World.block_lt_of_cell? w _ hx198_2)).trans hx198_2
                        replace hx198_3 := (HB.out.cell (World.block_lt_of_cell? w _ hx198_3)).trans hx198_3
                        have HR198_1 := Aside0.mk hi198_1
                        have HC198_1 := Aside0.mk hl198_1
                        clear hi198_1 hl198_1
                        replace p198 := eq_true p198
                        replace q198 := eq_true q198
                        go_wp2
                        go_meet
                        case rel => exact ⟨_, (true), (by first | rfl | (simp; done) | (simp [*]; done) | exact isEmpty_bne _), H', ⟨by have := HK1.out; first | omega | exact Nat.le_refl _⟩, ⟨by repeat (first | (with_reducible first | exact HB.out | apply below_alloc | apply pw_below_drewN | apply below_drew1) | exact HB.out)⟩⟩
                      · rw [if_neg c11] at H
                        have c11b0 : (((rd_T29 l0 x5_1).f0) == 65533) = false := beq_eq_false_iff_ne.mpr c11
                        have c11b1 : (((rd_T29 l0 x5_1).f0) != 65533) = true := bne_iff_ne.mpr c11
                        replace H := Option.bind_eq_some_iff.mp H
                        obtain ⟨t199, A120, H⟩ := H
                        replace H : (if t199 = true then (hatstandref3_Put.j1 k1 l0 x4_1 x5_1 ((rd_T29 l0 x5_1).f0) true) else ((hatstandref3_Number.f ((rd_T29 l0 x5_1).f0)).bind fun t200 => (hatstandref3_Put.j1 k1 l0 x4_1 x5_1 ((rd_T29 l0 x5_1).f0) t200))) = some (r1, r2) := H
                        have A12 := Aside0.mk A120
                        clear A120
                        by_cases c13 : t199 = true
                        · subst c13
                          have H1 : (hatstandref3_Put.j1 k1 l0 x4_1 x5_1 ((rd_T29 l0 x5_1).f0) true) = some (r1, r2) := by rw [if_pos rfl] at H; exact H
                          clear H
                          have H := H1
                          clear H1
                          have H' := Aside0.mk H
                          clear H
                          have p198 : 0 ≤ (x5_1 : Int) := of_decide_eq_true (by first | (with_reducible assumption) | assumption)
                          have q198 : x5_1 < (l0.length : Int) := of_decide_eq_true (by first | (with_reducible assumption) | assumption)
                          obtain ⟨ad198, A198_1, c198_1, e198, hx198_0, hx198_1, hx198_2, hx198_3, hl198_1, hi198_1⟩ := at_T29 HR0.out x5_1 p198 q198
                          (try rw [← Nbq5.out] at hx198_2)
                          obtain rfl : ad197 = ad198 := (by injection e198)
                          replace hx198_0 := (HB.out.cell (World.block_lt_of_cell? w _ hx198_0)).trans hx198_0
                          replace hx198_1 := (HB.out.cell (World.block_lt_of_cell? w _ hx198_1)).trans hx198_1
                          replace hx198_2 := (HB.out.cell (World.block_lt_of_cell? w _ hx198_2)).trans hx198_2
                          replace hx198_3 := (HB.out.cell (World.block_lt_of_cell? w _ hx198_3)).trans hx198_3
                          have HR198_1 := Aside0.mk hi198_1
                          have HC198_1 := Aside0.mk hl198_1
                          clear hi198_1 hl198_1
                          replace p198 := eq_true p198
                          replace q198 := eq_true q198
                          go_wp2_with (first | (go_at_call 28; (with_reducible refine (hatstandref3_Blank.calls ((rd_T29 l0 x5_1).f0) true _ A12.out).mono ?_); rintro e w' ⟨rfl, ⟨nd, rfl⟩⟩))
                          go_meet
                          case rel => exact ⟨_, (true), (by first | rfl | (simp; done) | (simp [*]; done) | exact isEmpty_bne _), H', ⟨by have := HK1.out; first | omega | exact Nat.le_refl _⟩, ⟨by repeat (first | (with_reducible first | exact HB.out | apply below_alloc | apply pw_below_drewN | apply below_drew1) | exact HB.out)⟩⟩
                        · replace c13 := Bool.eq_false_iff.mpr c13
                          subst c13
                          have H1 : ((hatstandref3_Number.f ((rd_T29 l0 x5_1).f0)).bind fun t200 => (hatstandref3_Put.j1 k1 l0 x4_1 x5_1 ((rd_T29 l0 x5_1).f0) t200)) = some (r1, r2) := by rw [if_neg (show ¬ (false = true) by decide)] at H; exact H
                          clear H
                          have H := H1
                          clear H1
                          replace H := Option.bind_eq_some_iff.mp H
                          obtain ⟨t200, A140, H⟩ := H
                          replace H : (hatstandref3_Put.j1 k1 l0 x4_1 x5_1 ((rd_T29 l0 x5_1).f0) t200) = some (r1, r2) := H
                          have A14 := Aside0.mk A140
                          clear A140
                          have H' := Aside0.mk H
                          clear H
                          have p198 : 0 ≤ (x5_1 : Int) := of_decide_eq_true (by first | (with_reducible assumption) | assumption)
                          have q198 : x5_1 < (l0.length : Int) := of_decide_eq_true (by first | (with_reducible assumption) | assumption)
                          obtain ⟨ad198, A198_1, c198_1, e198, hx198_0, hx198_1, hx198_2, hx198_3, hl198_1, hi198_1⟩ := at_T29 HR0.out x5_1 p198 q198
                          (try rw [← Nbq5.out] at hx198_2)
                          obtain rfl : ad197 = ad198 := (by injection e198)
                          replace hx198_0 := (HB.out.cell (World.block_lt_of_cell? w _ hx198_0)).trans hx198_0
                          replace hx198_1 := (HB.out.cell (World.block_lt_of_cell? w _ hx198_1)).trans hx198_1
                          replace hx198_2 := (HB.out.cell (World.block_lt_of_cell? w _ hx198_2)).trans hx198_2
                          replace hx198_3 := (HB.out.cell (World.block_lt_of_cell? w _ hx198_3)).trans hx198_3
                          have HR198_1 := Aside0.mk hi198_1
                          have HC198_1 := Aside0.mk hl198_1
                          clear hi198_1 hl198_1
                          replace p198 := eq_true p198
                          replace q198 := eq_true q198
                          go_wp2_with (first | (go_at_call 28; (with_reducible refine (hatstandref3_Blank.calls ((rd_T29 l0 x5_1).f0) false _ A12.out).mono ?_); rintro e w' ⟨rfl, ⟨nd, rfl⟩⟩) | (go_at_call 29; (with_reducible refine (hatstandref3_Number.calls ((rd_T29 l0 x5_1).f0) t200 _ A14.out).mono ?_); rintro e w' ⟨rfl, ⟨nd, rfl⟩⟩))
                          go_meet
                          case rel => exact ⟨_, (t200), (by first | rfl | (simp; done) | (simp [*]; done) | exact isEmpty_bne _), H', ⟨by have := HK1.out; first | omega | exact Nat.le_refl _⟩, ⟨by repeat (first | (with_reducible first | exact HB.out | apply below_alloc | apply pw_below_drewN | apply below_drew1) | exact HB.out)⟩⟩
                  · rw [if_neg c9] at H
                    have c9b0 : decide (55296 ≤ ((rd_T29 l0 x5_1).f0)) = false := decide_eq_false c9
                    clear c9
                    by_cases c15 : ((rd_T29 l0 x5_1).f0) = 65533
                    · rw [if_pos c15] at H
                      have c15b0 : (((rd_T29 l0 x5_1).f0) == 65533) = true := beq_iff_eq.mpr c15
                      have c15b1 : (((rd_T29 l0 x5_1).f0) != 65533) = false := bne_eq_false_iff_eq.mpr c15
                      clear c15
                      have H' := Aside0.mk H
                      clear H
                      have p198 : 0 ≤ (x5_1 : Int) := of_decide_eq_true (by first | (with_reducible assumption) | assumption)
                      have q198 : x5_1 < (l0.length : Int) := of_decide_eq_true (by first | (with_reducible assumption) | assumption)
                      obtain ⟨ad198, A198_1, c198_1, e198, hx198_0, hx198_1, hx198_2, hx198_3, hl198_1, hi198_1⟩ := at_T29 HR0.out x5_1 p198 q198
                      (try rw [← Nbq5.out] at hx198_2)
                      obtain rfl : ad197 = ad198 := (by injection e198)
                      replace hx198_0 := (HB.out.cell (World.block_lt_of_cell? w _ hx198_0)).trans hx198_0
                      replace hx198_1 := (HB.out.cell (World.block_lt_of_cell? w _ hx198_1)).trans hx198_1
                      replace hx198_2 := (HB.out.cell (World.block_lt_of_cell? w _ hx198_2)).trans hx198_2
                      replace hx198_3 := (HB.out.cell (World.block_lt_of_cell? w _ hx198_3)).trans hx198_3
                      have HR198_1 := Aside0.mk hi198_1
                      have HC198_1 := Aside0.mk hl198_1
                      clear hi198_1 hl198_1
                      replace p198 := eq_true p198
                      replace q198 := eq_true q198
                      go_wp2
                      go_meet
                      case rel => exact ⟨_, (true), (by first | rfl | (simp; done) | (simp [*]; done) | exact isEmpty_bne _), H', ⟨by have := HK1.out; first | omega | exact Nat.le_refl _⟩, ⟨by repeat (first | (with_reducible first | exact HB.out | apply below_alloc | apply pw_below_drewN | apply below_drew1) | exact HB.out)⟩⟩
                    · rw [if_neg c15] at H
                      have c15b0 : (((rd_T29 l0 x5_1).f0) == 65533) = false := beq_eq_false_iff_ne.mpr c15
                      have c15b1 : (((rd_T29 l0 x5_1).f0) != 65533) = true := bne_iff_ne.mpr c15
                      replace H := Option.bind_eq_some_iff.mp H
                      obtain ⟨t201, A160, H⟩ := H
                      replace H : (if t201 = true then (hatstandref3_Put.j1 k1 l0 x4_1 x5_1 ((rd_T29 l0 x5_1).f0) true) else ((hatstandref3_Number.f ((rd_T29 l0 x5_1).f0)).bind fun t202 => (hatstandref3_Put.j1 k1 l0 x4_1 x5_1 ((rd_T29 l0 x5_1).f0) t202))) = some (r1, r2) := H
                      have A16 := Aside0.mk A160
                      clear A160
                      by_cases c17 : t201 = true
                      · subst c17
                        have H1 : (hatstandref3_Put.j1 k1 l0 x4_1 x5_1 ((rd_T29 l0 x5_1).f0) true) = some (r1, r2) := by rw [if_pos rfl] at H; exact H
                        clear H
                        have H := H1
                        clear H1
                        have H' := Aside0.mk H
                        clear H
                        have p198 : 0 ≤ (x5_1 : Int) := of_decide_eq_true (by first | (with_reducible assumption) | assumption)
                        have q198 : x5_1 < (l0.length : Int) := of_decide_eq_true (by first | (with_reducible assumption) | assumption)
                        obtain ⟨ad198, A198_1, c198_1, e198, hx198_0, hx198_1, hx198_2, hx198_3, hl198_1, hi198_1⟩ := at_T29 HR0.out x5_1 p198 q198
                        (try rw [← Nbq5.out] at hx198_2)
                        obtain rfl : ad197 = ad198 := (by injection e198)
                        replace hx198_0 := (HB.out.cell (World.block_lt_of_cell? w _ hx198_0)).trans hx198_0
                        replace hx198_1 := (HB.out.cell (World.block_lt_of_cell? w _ hx198_1)).trans hx198_1
                        replace hx198_2 := (HB.out.cell (World.block_lt_of_cell? w _ hx198_2)).trans hx198_2
                        replace hx198_3 := (HB.out.cell (World.block_lt_of_cell? w _ hx198_3)).trans hx198_3
                        have HR198_1 := Aside0.mk hi198_1
                        have HC198_1 := Aside0.mk hl198_1
                        clear hi198_1 hl198_1
                        replace p198 := eq_true p198
                        replace q198 := eq_true q198
                        go_wp2_with (first | (go_at_call 28; (with_reducible refine (hatstandref3_Blank.calls ((rd_T29 l0 x5_1).f0) true _ A16.out).mono ?_); rintro e w' ⟨rfl, ⟨nd, rfl⟩⟩))
                        go_meet
                        case rel => exact ⟨_, (true), (by first | rfl | (simp; done) | (simp [*]; done) | exact isEmpty_bne _), H', ⟨by have := HK1.out; first | omega | exact Nat.le_refl _⟩, ⟨by repeat (first | (with_reducible first | exact HB.out | apply below_alloc | apply pw_below_drewN | apply below_drew1) | exact HB.out)⟩⟩
                      · replace c17 := Bool.eq_false_iff.mpr c17
                        subst c17
                        have H1 : ((hatstandref3_Number.f ((rd_T29 l0 x5_1).f0)).bind fun t202 => (hatstandref3_Put.j1 k1 l0 x4_1 x5_1 ((rd_T29 l0 x5_1).f0) t202)) = some (r1, r2) := by rw [if_neg (show ¬ (false = true) by decide)] at H; exact H
                        clear H
                        have H := H1
                        clear H1
                        replace H := Option.bind_eq_some_iff.mp H
                        obtain ⟨t202, A180, H⟩ := H
                        replace H : (hatstandref3_Put.j1 k1 l0 x4_1 x5_1 ((rd_T29 l0 x5_1).f0) t202) = some (r1, r2) := H
                        have A18 := Aside0.mk A180
                        clear A180
                        have H' := Aside0.mk H
                        clear H
                        have p198 : 0 ≤ (x5_1 : Int) := of_decide_eq_true (by first | (with_reducible assumption) | assumption)
                        have q198 : x5_1 < (l0.length : Int) := of_decide_eq_true (by first | (with_reducible assumption) | assumption)
                        obtain ⟨ad198, A198_1, c198_1, e198, hx198_0, hx198_1, hx198_2, hx198_3, hl198_1, hi198_1⟩ := at_T29 HR0.out x5_1 p198 q198
                        (try rw [← Nbq5.out] at hx198_2)
                        obtain rfl : ad197 = ad198 := (by injection e198)
                        replace hx198_0 := (HB.out.cell (World.block_lt_of_cell? w _ hx198_0)).trans hx198_0
                        replace hx198_1 := (HB.out.cell (World.block_lt_of_cell? w _ hx198_1)).trans hx198_1
                        replace hx198_2 := (HB.out.cell (World.block_lt_of_cell? w _ hx198_2)).trans hx198_2
                        replace hx198_3 := (HB.out.cell (World.block_lt_of_cell? w _ hx198_3)).trans hx198_3
                        have HR198_1 := Aside0.mk hi198_1
                        have HC198_1 := Aside0.mk hl198_1
                        clear hi198_1 hl198_1
                        replace p198 := eq_true p198
                        replace q198 := eq_true q198
                        go_wp2_with (first | (go_at_call 28; (with_reducible refine (hatstandref3_Blank.calls ((rd_T29 l0 x5_1).f0) false _ A16.out).mono ?_); rintro e w' ⟨rfl, ⟨nd, rfl⟩⟩) | (go_at_call 29; (with_reducible refine (hatstandref3_Number.calls ((rd_T29 l0 x5_1).f0) t202 _ A18.out).mono ?_); rintro e w' ⟨rfl, ⟨nd, rfl⟩⟩))
                        go_meet
                        case rel => exact ⟨_, (t202), (by first | rfl | (simp; done) | (simp [*]; done) | exact isEmpty_bne _), H', ⟨by have := HK1.out; first | omega | exact Nat.le_refl _⟩, ⟨by repeat (first | (with_reducible first | exact HB.out | apply below_alloc | apply pw_below_drewN | apply below_drew1) | exact HB.out)⟩⟩
            · replace c6 := Bool.eq_false_iff.mpr c6
              subst c6
              have H1 : (hatstandref3_Put.j1 k1 l0 x4_1 x5_1 ((rd_T29 l0 x5_1).f0) true) = some (r1, r2) := by rw [if_neg (show ¬ (false = true) by decide)] at H; exact H
              clear H
              have H := H1
              clear H1
              have H' := Aside0.mk H
              clear H
              have p198 : 0 ≤ (x5_1 : Int) := of_decide_eq_true (by first | (with_reducible assumption) | assumption)
              have q198 : x5_1 < (l0.length : Int) := of_decide_eq_true (by first | (with_reducible assumption) | assumption)
              obtain ⟨ad198, A198_1, c198_1, e198, hx198_0, hx198_1, hx198_2, hx198_3, hl198_1, hi198_1⟩ := at_T29 HR0.out x5_1 p198 q198
              (try rw [← Nbq5.out] at hx198_2)
              obtain rfl : ad197 = ad198 := (by injection e198)
              replace hx198_0 := (HB.out.cell (World.block_lt_of_cell? w _ hx198_0)).trans hx198_0
              replace hx198_1 := (HB.out.cell (World.block_lt_of_cell? w _ hx198_1)).trans hx198_1
              replace hx198_2 := (HB.out.cell (World.block_lt_of_cell? w _ hx198_2)).trans hx198_2
              replace hx198_3 := (HB.out.cell (World.block_lt_of_cell? w _ hx198_3)).trans hx198_3
              have HR198_1 := Aside0.mk hi198_1
              have HC198_1 := Aside0.mk hl198_1
              clear hi198_1 hl198_1
              replace p198 := eq_true p198
              replace q198 := eq_true q198
              go_wp2
              go_meet
              case rel => exact ⟨_, (true), (by first | rfl | (simp; done) | (simp [*]; done) | exact isEmpty_bne _), H', ⟨by have := HK1.out; first | omega | exact Nat.le_refl _⟩, ⟨by repeat (first | (with_reducible first | exact HB.out | apply below_alloc | apply pw_below_drewN | apply below_drew1) | exact HB.out)⟩⟩
          case rest =>
            clear HC4
            try clear c1
            try clear p1
            try clear q1
            try clear hx1
            try clear c2
            try clear c2b0
            try clear p2
            try clear c3
            try clear c3b0
            try clear q5
            try clear c6
            try clear c7
            try clear c7b0
            try clear c8
            try clear c8b0
            try clear c9
            try clear c9b0
            try clear c10
            try clear c10b0
            try clear c11
            try clear c11b0
            try clear c11b1
            try clear c13
            try clear c15
            try clear c15b0
            try clear c15b1
            try clear c17
            try clear hx197_0
            try clear hx197_1
            try clear hx197_2
            try clear hx197_3
            try clear hx198_0
            try clear hx198_1
            try clear hx198_2
            try clear hx198_3
            try clear p197
            try clear p198
            try clear q197
            try clear q198
            obtain ⟨kq, x52_3, rfl, HA, HJ3, HB⟩ := hcut
            cases kq with
            | zero => exact absurd HA.out (by simp [hatstandref3_Put.j1])
            | succ kj3 =>
              have H := HA.out
              clear HA
              simp only [hatstandref3_Put.j1] at H
              by_cases c19 : x52_3 = true
              · subst c19
                have H1 : (some ((⟨#[]⟩ : ByteArray), 1)) = some (r1, r2) := by rw [if_pos rfl] at H; exact H
                clear H
                have H := H1
                clear H1
                simp only [Option.some.injEq, Prod.mk.injEq] at H
                obtain ⟨rfl, rfl⟩ := H
                go_wp2
                go_ret2
                exact ⟨by first | rfl | (simp [errW_none, errW_some] <;> rfl) | (simp [*, errW_none, errW_some] <;> rfl), by repeat (first | (with_reducible first | exact HB.out | apply below_alloc | apply pw_below_drewN | apply below_drew1) | exact HB.out)⟩
              · replace c19 := Bool.eq_false_iff.mpr c19
                subst c19
                have H1 : ((hatstandref3_utf8.f ((rd_T29 l0 x5_1).f0)).bind fun t203 => (if x4_1.size + t203.size ≤ 9223372036854775807 then (hatstandref3_Put.l1 kj3 l0 (x4_1 ++ t203) x5_1 0) else (none))) = some (r1, r2) := by rw [if_neg (show ¬ (false = true) by decide)] at H; exact H
                clear H
                have H := H1
                clear H1
                replace H := Option.bind_eq_some_iff.mp H
                obtain ⟨t203, A200, H⟩ := H
                replace H : (if x4_1.size + t203.size ≤ 9223372036854775807 then (hatstandref3_Put.l1 kj3 l0 (x4_1 ++ t203) x5_1 0) else (none)) = some (r1, r2) := H
                have A20 := Aside0.mk A200
                clear A200
                by_cases c21 : x4_1.size + t203.size ≤ 9223372036854775807
                · rw [if_pos c21] at H
                  have c21b0 := eq_true c21
                  have c21b1 : decide (x4_1.size + t203.size ≤ 9223372036854775807) = true := decide_eq_true c21
                  try have c21b2 : (9223372036854775807 < x4_1.size + t203.size) = False := eq_false (Nat.not_lt.2 c21)
                  have H' := Aside0.mk H
                  clear H
                  go_wp2_with (first | ((with_reducible refine gate_callee (f := 30) rfl ?_); refine goesL_ (some 55) rfl rfl Tryd.func30 (by kernel_rfl) rfl #[.int .i64 ((rd_T29 l0 x5_1).f0)] rfl (by (try simp only [List.map_toArray, List.map_cons, List.map_nil]); first | done | rfl | (simp only [List.length_drop, List.length_take]; rfl)) ?_; (with_reducible refine (hatstandref3_utf8.calls ((rd_T29 l0 x5_1).f0) t203 _ A20.out).mono ?_); rintro e w22 ⟨rfl, hb⟩; refine ⟨_, rfl, ?_⟩; have n0_ := Aside0.mk (below_step (by repeat (first | (with_reducible first | exact HB.out | apply below_alloc | apply pw_below_drewN | apply below_drew1) | exact HB.out)) hb); clear HB; have HB := n0_; clear n0_; (try clear hb); (try clear hb2); (try clear hk); (try clear hi)))
                  go_loopg [4, 7] kj3 (fun kq v4 v7 w' => ∃ (x4_3 : ByteArray) (x7_3 : Int), v4 = .string x4_3 ∧ v7 = .int .i64 x7_3 ∧ Aside0 (hatstandref3_Put.l1 kq l0 x4_3 x5_1 x7_3 = some (r1, r2)) ∧ Aside0 (kq ≤ kj3) ∧ Aside0 (Below w.heap.size w w'))
                  case atStart => exact ⟨(x4_1 ++ t203), (0), (by first | rfl | (simp; done) | (simp [*]; done) | exact isEmpty_bne _), (by first | rfl | (simp; done) | (simp [*]; done) | exact isEmpty_bne _), H', ⟨Nat.le_refl _⟩, ⟨by repeat (first | (with_reducible first | exact HB.out | apply below_alloc | apply pw_below_drewN | apply below_drew1) | exact HB.out)⟩⟩
                  case round =>
                    clear H'
                    try clear c1
                    try clear p1
                    try clear q1
                    try clear hx1
                    try clear c2
                    try clear c2b0
                    try clear p2
                    try clear c3
                    try clear c3b0
                    try clear q5
                    try clear c6
                    try clear c7
                    try clear c7b0
                    try clear c8
                    try clear c8b0
                    try clear c9
                    try clear c9b0
                    try clear c10
                    try clear c10b0
                    try clear c11
                    try clear c11b0
                    try clear c11b1
                    try clear c13
                    try clear c15
                    try clear c15b0
                    try clear c15b1
                    try clear c17
                    try clear c19
                    try clear p19
                    try clear q19
                    try clear hx19
                    try clear c21
                    try clear c21b0
                    try clear c21b1
                    try clear c21b2
                    try clear hx197_0
                    try clear hx197_1
                    try clear hx197_2
                    try clear hx197_3
                    try clear hx198_0
                    try clear hx198_1
                    try clear hx198_2
                    try clear hx198_3
                    try clear p1
                    try clear p197
                    try clear p198
                    try clear p2
                    try clear q1
                    try clear q197
                    try clear q198
                    try clear q5
                    obtain ⟨x4_3, x7_3, rfl, rfl, HA, HK3, HB⟩ := hrel
                    cases gk with
                    | zero => exact absurd HA.out (by simp [hatstandref3_Put.l1])
                    | succ k3 =>
                      have H := HA.out
                      clear HA
                      simp only [hatstandref3_Put.l1] at H
                      by_cases c23 : 0 ≤ x5_1
                      · rw [if_pos c23] at H
                        have c23b0 : decide (0 ≤ x5_1) = true := decide_eq_true c23
                        clear c23
                        by_cases c24 : x5_1 < (l0.length : Int)
                        · rw [if_pos c24] at H
                          have c24b0 : decide (x5_1 < (l0.length : Int)) = true := decide_eq_true c24
                          clear c24
                          by_cases c25 : x7_3 < (((rd_T29 l0 x5_1).f1).length : Int)
                          · rw [if_pos c25] at H
                            have c25b0 : decide (x7_3 < (((rd_T29 l0 x5_1).f1).length : Int)) = true := decide_eq_true c25
                            clear c25
                            by_cases c26 : x7_3 > 0
                            · rw [if_pos c26] at H
                              have c26b0 : decide (0 < x7_3) = true := decide_eq_true c26
                              clear c26
                              by_cases c27 : x4_3.size + 1 ≤ 9223372036854775807
                              · rw [if_pos c27] at H
                                have c27b0 := eq_true c27
                                have c27b1 : decide (x4_3.size + 1 ≤ 9223372036854775807) = true := decide_eq_true c27
                                try have c27b2 : (9223372036854775807 < x4_3.size + 1) = False := eq_false (Nat.not_lt.2 c27)
                                by_cases c28 : 0 ≤ x7_3
                                · rw [if_pos c28] at H
                                  have c28b0 : decide (0 ≤ x7_3) = true := decide_eq_true c28
                                  clear c28
                                  replace H := Option.bind_eq_some_iff.mp H
                                  obtain ⟨t207, A290, H⟩ := H
                                  replace H : (if (x4_3 ++ (⟨#[44]⟩ : ByteArray)).size + t207.size ≤ 9223372036854775807 then (hatstandref3_Put.l1 k3 l0 ((x4_3 ++ (⟨#[44]⟩ : ByteArray)) ++ t207) x5_1 (wrap64 (x7_3 + 1))) else (none)) = some (r1, r2) := H
                                  have A29 := Aside0.mk A290
                                  clear A290
                                  by_cases c30 : (x4_3 ++ (⟨#[44]⟩ : ByteArray)).size + t207.size ≤ 9223372036854775807
                                  · rw [if_pos c30] at H
                                    have c30b0 := eq_true c30
                                    have c30s : x4_3.size + 1 + t207.size ≤ 9223372036854775807 := by have h_ := c30; simp only [ByteArray.size_append] at h_; exact h_
                                    have c30s0 := eq_true c30s
                                    have c30s1 : decide (x4_3.size + 1 + t207.size ≤ 9223372036854775807) = true := decide_eq_true c30s
                                    have c30s2 : (9223372036854775807 < x4_3.size + 1 + t207.size) = False := eq_false (Nat.not_lt.2 c30s)
                                    clear c30s
                                    have c30b1 : decide ((x4_3 ++ (⟨#[44]⟩ : ByteArray)).size + t207.size ≤ 9223372036854775807) = true := decide_eq_true c30
                                    try have c30b2 : (9223372036854775807 < (x4_3 ++ (⟨#[44]⟩ : ByteArray)).size + t207.size) = False := eq_false (Nat.not_lt.2 c30)
                                    have H' := Aside0.mk H
                                    clear H
                                    have p204 : 0 ≤ (x5_1 : Int) := of_decide_eq_true (by first | (with_reducible assumption) | assumption)
                                    have q204 : x5_1 < (l0.length : Int) := of_decide_eq_true (by first | (with_reducible assumption) | assumption)
                                    obtain ⟨ad204, A204_1, c204_1, e204, hx204_0, hx204_1, hx204_2, hx204_3, hl204_1, hi204_1⟩ := at_T29 HR0.out x5_1 p204 q204
                                    obtain rfl : ad197 = ad204 := (by injection e204)
                                    replace hx204_0 := (HB.out.cell (World.block_lt_of_cell? w _ hx204_0)).trans hx204_0
                                    replace hx204_1 := (HB.out.cell (World.block_lt_of_cell? w _ hx204_1)).trans hx204_1
                                    replace hx204_2 := (HB.out.cell (World.block_lt_of_cell? w _ hx204_2)).trans hx204_2
                                    replace hx204_3 := (HB.out.cell (World.block_lt_of_cell? w _ hx204_3)).trans hx204_3
                                    have HR204_1 := Aside0.mk hi204_1
                                    have HC204_1 := Aside0.mk hl204_1
                                    clear hi204_1 hl204_1
                                    replace p204 := eq_true p204
                                    replace q204 := eq_true q204
                                    have p205 : 0 ≤ (x5_1 : Int) := of_decide_eq_true (by first | (with_reducible assumption) | assumption)
                                    have q205 : x5_1 < (l0.length : Int) := of_decide_eq_true (by first | (with_reducible assumption) | assumption)
                                    obtain ⟨ad205, A205_1, c205_1, e205, hx205_0, hx205_1, hx205_2, hx205_3, hl205_1, hi205_1⟩ := at_T29 HR0.out x5_1 p205 q205
                                    obtain rfl : ad197 = ad205 := (by injection e205)
                                    replace hx205_0 := (HB.out.cell (World.block_lt_of_cell? w _ hx205_0)).trans hx205_0
                                    replace hx205_1 := (HB.out.cell (World.block_lt_of_cell? w _ hx205_1)).trans hx205_1
                                    replace hx205_2 := (HB.out.cell (World.block_lt_of_cell? w _ hx205_2)).trans hx205_2
                                    replace hx205_3 := (HB.out.cell (World.block_lt_of_cell? w _ hx205_3)).trans hx205_3
                                    have HR205_1 := Aside0.mk hi205_1
                                    have HC205_1 := Aside0.mk hl205_1
                                    clear hi205_1 hl205_1
                                    replace p205 := eq_true p205
                                    replace q205 := eq_true q205
                                    have ea_ := Option.some.inj (hx204_1.symm.trans hx205_1)
                                    injection ea_ with ea_ en_ ec_
                                    subst ea_
                                    subst ec_
                                    clear en_
                                    have p206 : 0 ≤ (x7_3 : Int) := of_decide_eq_true (by first | (with_reducible assumption) | assumption)
                                    have q206 : x7_3 < (((rd_T29 l0 x5_1).f1).length : Int) := of_decide_eq_true (by first | (with_reducible assumption) | assumption)
                                    obtain ⟨ad206, e206, hx206_0⟩ := Kd.at_int HR205_1.out x7_3 p206 q206
                                    cases e206
                                    replace hx206_0 := (HB.out.cell (World.block_lt_of_cell? w _ hx206_0)).trans hx206_0
                                    replace p206 := eq_true p206
                                    replace q206 := eq_true q206
                                    go_wp2_with (first | ((with_reducible refine gate_callee (f := 31) rfl ?_); refine goesL_ (some 80) rfl rfl Tryd.func31 (by kernel_rfl) rfl #[.int .u64 (rd ((rd_T29 l0 x5_1).f1) x7_3)] rfl (by (try simp only [List.map_toArray, List.map_cons, List.map_nil]); first | done | rfl | (simp only [List.length_drop, List.length_take]; rfl)) ?_; (with_reducible refine (hatstandref3_Digits.calls k3 (rd ((rd_T29 l0 x5_1).f1) x7_3) t207 _ A29.out).mono ?_); rintro e w' ⟨rfl, ⟨nd, rfl⟩⟩; refine ⟨_, rfl, ?_⟩))
                                    go_roundg k3
                                    case measure => have := HK1.out; have := HJ3.out; have := HK3.out; omega
                                    case rel => exact ⟨((x4_3 ++ (⟨#[44]⟩ : ByteArray)) ++ t207), (wrap64 (x7_3 + 1)), (by first | rfl | (simp; done) | (simp [*]; done) | exact isEmpty_bne _), (by first | rfl | (simp; done) | (simp [*]; done) | exact isEmpty_bne _), H', ⟨by have := HK1.out; have := HJ3.out; have := HK3.out; omega⟩, ⟨by repeat (first | (with_reducible first | exact HB.out | apply below_alloc | apply pw_below_drewN | apply below_drew1) | exact HB.out)⟩⟩
                                  · rw [if_neg c30] at H
                                    exact absurd H (by simp)
                                · rw [if_neg c28] at H
                                  exact absurd H (by simp)
                              · rw [if_neg c27] at H
                                exact absurd H (by simp)
                            · rw [if_neg c26] at H
                              have c26b0 : decide (0 < x7_3) = false := decide_eq_false c26
                              clear c26
                              by_cases c31 : 0 ≤ x7_3
                              · rw [if_pos c31] at H
                                have c31b0 : decide (0 ≤ x7_3) = true := decide_eq_true c31
                                clear c31
                                replace H := Option.bind_eq_some_iff.mp H
                                obtain ⟨t210, A320, H⟩ := H
                                replace H : (if x4_3.size + t210.size ≤ 9223372036854775807 then (hatstandref3_Put.l1 k3 l0 (x4_3 ++ t210) x5_1 (wrap64 (x7_3 + 1))) else (none)) = some (r1, r2) := H
                                have A32 := Aside0.mk A320
                                clear A320
                                by_cases c33 : x4_3.size + t210.size ≤ 9223372036854775807
                                · rw [if_pos c33] at H
                                  have c33b0 := eq_true c33
                                  have c33b1 : decide (x4_3.size + t210.size ≤ 9223372036854775807) = true := decide_eq_true c33
                                  try have c33b2 : (9223372036854775807 < x4_3.size + t210.size) = False := eq_false (Nat.not_lt.2 c33)
                                  have H' := Aside0.mk H
                                  clear H
                                  have p204 : 0 ≤ (x5_1 : Int) := of_decide_eq_true (by first | (with_reducible assumption) | assumption)
                                  have q204 : x5_1 < (l0.length : Int) := of_decide_eq_true (by first | (with_reducible assumption) | assumption)
                                  obtain ⟨ad204, A204_1, c204_1, e204, hx204_0, hx204_1, hx204_2, hx204_3, hl204_1, hi204_1⟩ := at_T29 HR0.out x5_1 p204 q204
                                  obtain rfl : ad197 = ad204 := (by injection e204)
                                  replace hx204_0 := (HB.out.cell (World.block_lt_of_cell? w _ hx204_0)).trans hx204_0
                                  replace hx204_1 := (HB.out.cell (World.block_lt_of_cell? w _ hx204_1)).trans hx204_1
                                  replace hx204_2 := (HB.out.cell (World.block_lt_of_cell? w _ hx204_2)).trans hx204_2
                                  replace hx204_3 := (HB.out.cell (World.block_lt_of_cell? w _ hx204_3)).trans hx204_3
                                  have HR204_1 := Aside0.mk hi204_1
                                  have HC204_1 := Aside0.mk hl204_1
                                  clear hi204_1 hl204_1
                                  replace p204 := eq_true p204
                                  replace q204 := eq_true q204
                                  have p208 : 0 ≤ (x5_1 : Int) := of_decide_eq_true (by first | (with_reducible assumption) | assumption)
                                  have q208 : x5_1 < (l0.length : Int) := of_decide_eq_true (by first | (with_reducible assumption) | assumption)
                                  obtain ⟨ad208, A208_1, c208_1, e208, hx208_0, hx208_1, hx208_2, hx208_3, hl208_1, hi208_1⟩ := at_T29 HR0.out x5_1 p208 q208
                                  obtain rfl : ad197 = ad208 := (by injection e208)
                                  replace hx208_0 := (HB.out.cell (World.block_lt_of_cell? w _ hx208_0)).trans hx208_0
                                  replace hx208_1 := (HB.out.cell (World.block_lt_of_cell? w _ hx208_1)).trans hx208_1
                                  replace hx208_2 := (HB.out.cell (World.block_lt_of_cell? w _ hx208_2)).trans hx208_2
                                  replace hx208_3 := (HB.out.cell (World.block_lt_of_cell? w _ hx208_3)).trans hx208_3
                                  have HR208_1 := Aside0.mk hi208_1
                                  have HC208_1 := Aside0.mk hl208_1
                                  clear hi208_1 hl208_1
                                  replace p208 := eq_true p208
                                  replace q208 := eq_true q208
                                  have ea_ := Option.some.inj (hx204_1.symm.trans hx208_1)
                                  injection ea_ with ea_ en_ ec_
                                  subst ea_
                                  subst ec_
                                  clear en_
                                  have p209 : 0 ≤ (x7_3 : Int) := of_decide_eq_true (by first | (with_reducible assumption) | assumption)
                                  have q209 : x7_3 < (((rd_T29 l0 x5_1).f1).length : Int) := of_decide_eq_true (by first | (with_reducible assumption) | assumption)
                                  obtain ⟨ad209, e209, hx209_0⟩ := Kd.at_int HR208_1.out x7_3 p209 q209
                                  cases e209
                                  replace hx209_0 := (HB.out.cell (World.block_lt_of_cell? w _ hx209_0)).trans hx209_0
                                  replace p209 := eq_true p209
                                  replace q209 := eq_true q209
                                  go_wp2_with (first | ((with_reducible refine gate_callee (f := 31) rfl ?_); refine goesL_ (some 80) rfl rfl Tryd.func31 (by kernel_rfl) rfl #[.int .u64 (rd ((rd_T29 l0 x5_1).f1) x7_3)] rfl (by (try simp only [List.map_toArray, List.map_cons, List.map_nil]); first | done | rfl | (simp only [List.length_drop, List.length_take]; rfl)) ?_; (with_reducible refine (hatstandref3_Digits.calls k3 (rd ((rd_T29 l0 x5_1).f1) x7_3) t210 _ A32.out).mono ?_); rintro e w' ⟨rfl, ⟨nd, rfl⟩⟩; refine ⟨_, rfl, ?_⟩))
                                  go_roundg k3
                                  case measure => have := HK1.out; have := HJ3.out; have := HK3.out; omega
                                  case rel => exact ⟨(x4_3 ++ t210), (wrap64 (x7_3 + 1)), (by first | rfl | (simp; done) | (simp [*]; done) | exact isEmpty_bne _), (by first | rfl | (simp; done) | (simp [*]; done) | exact isEmpty_bne _), H', ⟨by have := HK1.out; have := HJ3.out; have := HK3.out; omega⟩, ⟨by repeat (first | (with_reducible first | exact HB.out | apply below_alloc | apply pw_below_drewN | apply below_drew1) | exact HB.out)⟩⟩
                                · rw [if_neg c33] at H
                                  exact absurd H (by simp)
                              · rw [if_neg c31] at H
                                exact absurd H (by simp)
                          · rw [if_neg c25] at H
                            have c25b0 : decide (x7_3 < (((rd_T29 l0 x5_1).f1).length : Int)) = false := decide_eq_false c25
                            clear c25
                            have H' := Aside0.mk H
                            clear H
                            have p204 : 0 ≤ (x5_1 : Int) := of_decide_eq_true (by first | (with_reducible assumption) | assumption)
                            have q204 : x5_1 < (l0.length : Int) := of_decide_eq_true (by first | (with_reducible assumption) | assumption)
                            obtain ⟨ad204, A204_1, c204_1, e204, hx204_0, hx204_1, hx204_2, hx204_3, hl204_1, hi204_1⟩ := at_T29 HR0.out x5_1 p204 q204
                            obtain rfl : ad197 = ad204 := (by injection e204)
                            replace hx204_0 := (HB.out.cell (World.block_lt_of_cell? w _ hx204_0)).trans hx204_0
                            replace hx204_1 := (HB.out.cell (World.block_lt_of_cell? w _ hx204_1)).trans hx204_1
                            replace hx204_2 := (HB.out.cell (World.block_lt_of_cell? w _ hx204_2)).trans hx204_2
                            replace hx204_3 := (HB.out.cell (World.block_lt_of_cell? w _ hx204_3)).trans hx204_3
                            have HR204_1 := Aside0.mk hi204_1
                            have HC204_1 := Aside0.mk hl204_1
                            clear hi204_1 hl204_1
                            replace p204 := eq_true p204
                            replace q204 := eq_true q204
                            go_wp2
                            go_roundg k3
                            case measure => have := HK1.out; have := HJ3.out; have := HK3.out; omega
                            case rel => exact ⟨(x4_3), (wrap64 (x5_1 + 1)), (by first | rfl | (simp; done) | (simp [*]; done) | exact isEmpty_bne _), (by first | rfl | (simp; done) | (simp [*]; done) | exact isEmpty_bne _), H', ⟨by have := HK1.out; have := HJ3.out; have := HK3.out; omega⟩, ⟨by repeat (first | (with_reducible first | exact HB.out | apply below_alloc | apply pw_below_drewN | apply below_drew1) | exact HB.out)⟩⟩
                        · rw [if_neg c24] at H
                          exact absurd H (by simp)
                      · rw [if_neg c23] at H
                        exact absurd H (by simp)
                · rw [if_neg c21] at H
                  exact absurd H (by simp)
        · rw [if_neg c3] at H
          exact absurd H (by simp)
      · rw [if_neg c2] at H
        have c2b0 : decide (x5_1 < (l0.length : Int)) = false := decide_eq_false c2
        clear c2
        simp only [Option.some.injEq, Prod.mk.injEq] at H
        obtain ⟨rfl, rfl⟩ := H
        go_wp2
        go_ret2
        exact ⟨by first | rfl | (simp [errW_none, errW_some] <;> rfl) | (simp [*, errW_none, errW_some] <;> rfl), by repeat (first | (with_reducible first | exact HB.out | apply below_alloc | apply pw_below_drewN | apply below_drew1) | exact HB.out)⟩

/-! ### hatstandref3_next: function 40 -/
def hatstandref3_next.f (a0 : ByteArray) (a1 : Int) (a2 : Int) (a3 : Int) : Option (Bool) := if a1 < (a0.size : Int) then (if 0 ≤ a1 then (if (bt a0 a1) ≥ a2 then (some (decide ((bt a0 a1) ≤ a3))) else (some false)) else (none)) else (some false)
set_option maxHeartbeats 8000000 in
set_option maxRecDepth 100000 in
theorem hatstandref3_next.calls (a0 : ByteArray) (a1 : Int) (a2 : Int) (a3 : Int) (r : Bool) (w : World) (h : hatstandref3_next.f a0 a1 a2 a3 = some r) :
    Calls Tryd.prog 40 #[.string a0, .int .i64 a1, .int .u8 a2, .int .u8 a3] w fun e w' => e = .returned (.bool r) ∧ Drawn0 w w' := by
  have H : (if a1 < (a0.size : Int) then (if 0 ≤ a1 then (if (bt a0 a1) ≥ a2 then (some (decide ((bt a0 a1) ≤ a3))) else (some false)) else (none)) else (some false)) = some r := h
  clear h
  by_cases c5 : a1 < (a0.size : Int)
  · rw [if_pos c5] at H
    have c5b0 : decide (a1 < (a0.size : Int)) = true := decide_eq_true c5
    clear c5
    by_cases c6 : 0 ≤ a1
    · rw [if_pos c6] at H
      have c6b0 : decide (0 ≤ a1) = true := decide_eq_true c6
      clear c6
      by_cases c8 : (bt a0 a1) ≥ a2
      · rw [if_pos c8] at H
        have c8b0 : decide (a2 ≤ (bt a0 a1)) = true := decide_eq_true c8
        clear c8
        obtain rfl := Option.some.inj H
        have p7 : 0 ≤ (a1 : Int) := of_decide_eq_true (by first | (with_reducible assumption) | assumption)
        have q7 : a1 < (a0.size : Int) := of_decide_eq_true (by first | (with_reducible assumption) | assumption)
        have hx7 := bt_at a0 a1
        replace p7 := eq_true p7
        replace q7 := eq_true q7
        have p9 : 0 ≤ (a1 : Int) := of_decide_eq_true (by first | (with_reducible assumption) | assumption)
        have q9 : a1 < (a0.size : Int) := of_decide_eq_true (by first | (with_reducible assumption) | assumption)
        have hx9 := bt_at a0 a1
        replace p9 := eq_true p9
        replace q9 := eq_true q9
        go_enter Tryd.func40, Tryd.ntmps40
        go_wp2
        go_ret
        exact ⟨by first | rfl | (simp; done) | (simp [*]; done) | exact isEmpty_bne _, by repeat (first | exact Drawn0.refl _ | apply Drawn0.step)⟩
      · rw [if_neg c8] at H
        have c8b0 : decide (a2 ≤ (bt a0 a1)) = false := decide_eq_false c8
        clear c8
        obtain rfl := Option.some.inj H
        have p7 : 0 ≤ (a1 : Int) := of_decide_eq_true (by first | (with_reducible assumption) | assumption)
        have q7 : a1 < (a0.size : Int) := of_decide_eq_true (by first | (with_reducible assumption) | assumption)
        have hx7 := bt_at a0 a1
        replace p7 := eq_true p7
        replace q7 := eq_true q7
        go_enter Tryd.func40, Tryd.ntmps40
        go_wp2
        go_ret
        exact ⟨by first | rfl | (simp; done) | (simp [*]; done) | exact isEmpty_bne _, by repeat (first | exact Drawn0.refl _ | apply Drawn0.step)⟩
    · rw [if_neg c6] at H
      exact absurd H (by simp)
  · rw [if_neg c5] at H
    have c5b0 : decide (a1 < (a0.size : Int)) = false := decide_eq_false c5
    clear c5
    obtain rfl := Option.some.inj H
    go_enter Tryd.func40, Tryd.ntmps40
    go_wp2
    go_ret
    exact ⟨by first | rfl | (simp; done) | (simp [*]; done) | exact isEmpty_bne _, by repeat (first | exact Drawn0.refl _ | apply Drawn0.step)⟩

end Go.Proofs.YtcldjdngfmakbaaDoor.G

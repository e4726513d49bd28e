/-
  Plain law: one entry that may not be put, and nothing is.
-/
import Derived.Test.YtcldjdngfmakbaaDoorPureA
import Derived.Test.YtcldjdngfmakbaaDoorGErrs
namespace Go.Proofs.YtcldjdngfmakbaaDoor.G
open Go.RowKit Go.Proofs.YtcldjdngfmakbaaDoor Go.Proofs.YtcldjdngfmakbaaDoorW.PrintWords
set_option linter.unusedVariables false
set_option linter.unusedSimpArgs false

theorem madeF_args (ops : List Int) : ∀ e ∈ madeF ops [], e.f1 = [] := by
  intro e he
  obtain ⟨i, _, rfl⟩ := List.mem_map.1 he
  simp [mkE]

theorem madeF_args_rd (ops : List Int) (i : Int) (hi : i.toNat < (madeF ops []).length) : (rd_T33 (madeF ops []) i).f1 = [] := by
  unfold rd_T33
  rw [List.getD_eq_getElem?_getD, List.getElem?_eq_getElem hi]
  exact madeF_args ops _ (List.getElem_mem hi)

theorem sum_le_of (l : List Nat) (c : Nat) (h : ∀ x ∈ l, x ≤ c) : l.sum ≤ c * l.length := by
  induction l with
  | nil => simp
  | cons x r ih =>
    have := ih (fun y hy => h y (List.mem_cons_of_mem _ hy))
    have h1 := h x (List.mem_cons_self ..)
    rw [List.sum_cons, List.length_cons, Nat.mul_succ]
    omega

theorem putOk_noargs (l : List S33) (hl : l.length ≤ 100) (h : ∀ e ∈ l, e.f1 = []) : putOk l := by
  refine ⟨fun e he x hx => (by rw [h e he] at hx; cases hx), ?_⟩
  have h1 := sum_le_of (l.map weight) 4 (fun x hx => by
    obtain ⟨e, he, rfl⟩ := List.mem_map.1 hx
    unfold weight
    rw [h e he]
    simp)
  rw [List.length_map] at h1
  omega

theorem mem_set_sub {α : Type} (l : List α) (i : Nat) (x : α) : ∀ e ∈ l.set i x, e ∈ l ∨ e = x := by
  intro e he
  exact List.mem_or_eq_of_mem_set he

def bads_ : List Int := [32, 9, 10, 48, 57, 44, 65533, (-1), 55296, 57343, 1114112]
theorem bads_bad : ∀ r ∈ bads_, (ofB marks_ r || (!Lib.validRune r || r == 65533)) = true := by decide +kernel

theorem put_bad (l : List S33) (e : S33) (he : e ∈ l) (hb : badE e = true) (ho : putOk l) : glyph_Put.f l = some (⟨#[]⟩, 1) := by
  unfold glyph_Put.f putF
  rw [if_pos ho, if_pos (List.any_eq_true.2 ⟨e, he, hb⟩)]

theorem errs_arm (l : List S33) (i : Nat) (x : S33) (hi : i < l.length) (hl : l.length ≤ 100) (ha : ∀ e ∈ l, e.f1 = []) (hx : x.f1 = []) (hb : badE x = true) :
    (glyph_Put.f (l.set i x)).bind (fun b => if b.1.toList = ([] : List UInt8) then some (b.2 == 1) else some false) = some true := by
  rw [put_bad (l.set i x) x (List.mem_iff_getElem.2 ⟨i, by simpa using hi, by simp⟩) hb (putOk_noargs _ (by simpa using hl) (fun e he => by
    rcases mem_set_sub l i x e he with h | h
    · exact ha e h
    · rw [h]; exact hx))]
  decide +kernel

theorem errs_pure (l0 : List Int) (a1 a2 : Int) (w0 : ∀ y ∈ l0, (Lit.int .i64 y).wf = true) (w1 : (Lit.int .i64 a1).wf = true) (w2 : (Lit.int .i64 a2).wf = true) : ∃ k, hatstandlaw3_GlyphErrs.f k l0 a1 a2 = some true := by
  have hj : Ev (fun k => hatstandlaw3_GlyphErrs.j0 k l0 a1 a2 true true) true := Ev.step (fun k => by rw [hatstandlaw3_GlyphErrs.j0, if_pos rfl]) (Ev.now true)
  by_cases h50 : (l0.length : Int) > 50
  · refine Ev.rounds (Ev.congr (fun k => ?_) hj)
    simp only [hatstandlaw3_GlyphErrs.f, hatstandlaw3_shown.f, Option.bind_some, if_true]
    rw [if_pos h50]
  by_cases h0 : l0.length = 0
  · refine Ev.rounds (Ev.congr (fun k => ?_) hj)
    simp only [hatstandlaw3_GlyphErrs.f, hatstandlaw3_shown.f, Option.bind_some, if_true]
    rw [if_neg h50, show ((l0.length : Int) == 0) = true from beq_iff_eq.2 (by omega)]
  have hm := made_ev l0 [] w0 (by omega) (by simp)
  have hlen := madeF_length l0 []
  have p1 := pickF_range a1 (l0.length : Int) (by omega)
  have p2 := pickF_range a2 12 (by omega)
  have hi : (pickF a1 (l0.length : Int)).toNat < (madeF l0 []).length := by rw [hlen]; omega
  have main : Ev (fun k => hatstandlaw3_GlyphErrs.j0 k l0 a1 a2 true false) true := by
    refine Ev.step (fun k => by rw [hatstandlaw3_GlyphErrs.j0, if_neg (by simp)]) ?_
    refine Ev.bind hm (Ev.congr (fun k => ?_) (Ev.now true))
    rw [hlen, pick_eq _ _ (wide_i64 w1) (by omega)]
    simp only [Option.bind_some]
    have e12 : wrap64 ((([32, 9, 10, 48, 57, 44, 65533, (-1), 55296, 57343, 1114112] : List Int).length : Int) + 1) = 12 := by decide +kernel
    rw [e12, pick_eq _ _ (wide_i64 w2) (by omega)]
    simp only [Option.bind_some]
    by_cases hn : pickF a2 12 < 11
    · rw [if_pos (show pickF a2 12 < (([32, 9, 10, 48, 57, 44, 65533, (-1), 55296, 57343, 1114112] : List Int).length : Int) from hn), if_pos p2.1, if_pos p1.1, if_pos p1.2]
      refine errs_arm _ _ _ hi (by omega) (madeF_args l0) (madeF_args_rd l0 _ hi) ?_
      have hb := bads_bad (bads_.getD (pickF a2 12).toNat 0) (by
        have hlt : (pickF a2 12).toNat < bads_.length := by show _ < 11; omega
        rw [List.getD_eq_getElem?_getD, List.getElem?_eq_getElem hlt]
        exact List.getElem_mem hlt)
      unfold badE
      rw [Bool.or_eq_true]
      exact .inr hb
    · rw [if_neg (show ¬ pickF a2 12 < (([32, 9, 10, 48, 57, 44, 65533, (-1), 55296, 57343, 1114112] : List Int).length : Int) from hn), if_pos p1.1, if_pos p1.2]
      exact errs_arm _ _ _ hi (by omega) (madeF_args l0) (madeF_args_rd l0 _ hi) (by simp [badE])
  refine Ev.rounds (Ev.congr (fun k => ?_) main)
  simp only [hatstandlaw3_GlyphErrs.f, hatstandlaw3_shown.f, Option.bind_some, if_true]
  rw [if_neg h50, show ((l0.length : Int) == 0) = false from beq_eq_false_iff_ne.2 (by omega)]

end Go.Proofs.YtcldjdngfmakbaaDoor.G

/-
  Plain law: entries that are unlike are put as texts that are unlike.
-/
import Derived.Test.YtcldjdngfmakbaaDoorPureE
import Derived.Test.YtcldjdngfmakbaaDoorG12
namespace Go.Proofs.YtcldjdngfmakbaaDoor.G
open Go.RowKit Go.Proofs.YtcldjdngfmakbaaDoor Go.Proofs.YtcldjdngfmakbaaDoorW.PrintWords Go.Lib
set_option linter.unusedVariables false
set_option linter.unusedSimpArgs false

/-- Their bytes are the same where they are the same, and there alone. -/
theorem put_inj (l m : List S33) (hl : Row l) (hm : Row m) : putBytes l = putBytes m ↔ SameP false (l.map cvE) (m.map cvE) := by
  constructor
  · intro h
    have e : placed 0 l = placed 0 m := by rw [← parse_put l hl.good, ← parse_put m hm.good, h]
    have a := same_placed l hl 0
    have b := same_placed m hm 0
    rw [e] at a
    refine ⟨a.1.symm.trans b.1, fun i hi => ?_⟩
    have hi' : i < ((placed 0 m).map cvE).length := by rw [a.1]; exact hi
    obtain ⟨a0, a2, a3, a1⟩ := a.2 i hi'
    obtain ⟨b0, b2, b3, b1⟩ := b.2 i hi'
    exact ⟨a0.symm.trans b0, a2.symm.trans b2, (fun e => by cases e), a1.symm.trans b1⟩
  · intro h
    have hlen : l.length = m.length := by simpa using h.1
    unfold putBytes
    have : l.map entryBytes = m.map entryBytes := by
      refine List.ext_getElem (by simpa using hlen) fun i h1 h2 => ?_
      have h1' : i < l.length := by simpa using h1
      have h2' : i < m.length := by simpa using h2
      obtain ⟨c0, c2, c3, c1⟩ := h.2 i (by simpa using h1')
      rw [map_getD _ _ h1', map_getD _ _ h2'] at c0 c1
      have e1 : l.getD i z33 = l[i] := by simp [List.getD, List.getElem?_eq_getElem h1']
      have e2 : m.getD i z33 = m[i] := by simp [List.getD, List.getElem?_eq_getElem h2']
      rw [e1, e2] at c0 c1
      have g1 := (hl.good _ (List.getElem_mem h1')).valid
      have g2 := (hm.good _ (List.getElem_mem h2')).valid
      have d0 : l[i].f0 = m[i].f0 := by
        have c0' : wrap64 l[i].f0 = wrap64 m[i].f0 := c0
        simp only [Lib.validRune, decide_eq_true_eq] at g1 g2
        rwa [wrap64_in _ (by omega), wrap64_in _ (by omega)] at c0'
      have d1 : l[i].f1 = m[i].f1 := c1
      rw [List.getElem_map, List.getElem_map]
      unfold entryBytes
      rw [d0, d1]
    rw [List.flatMap_def, List.flatMap_def, this]

theorem once_pure (a0 : List Int) (a1 : List (List Int)) (a2 : List Int) (a3 : List (List Int)) (w0 : ∀ y ∈ a0, (Lit.int .i64 y).wf = true) (w1 : ∀ x ∈ a1, ∀ y ∈ x, (Lit.int .u64 y).wf = true) (w2 : ∀ y ∈ a2, (Lit.int .i64 y).wf = true) (w3 : ∀ x ∈ a3, ∀ y ∈ x, (Lit.int .u64 y).wf = true) :
    ∃ k, hatstandlaw3_GlyphOnce.f k a0 a1 a2 a3 = some true := by
  have hj : Ev (fun k => hatstandlaw3_GlyphOnce.j0 k a0 a1 a2 a3 true true) true := Ev.step (fun k => by rw [hatstandlaw3_GlyphOnce.j0, if_pos rfl]) (Ev.now true)
  by_cases g0 : (a0.length : Int) > 20
  · refine Ev.rounds (Ev.congr (fun k => ?_) hj)
    simp only [hatstandlaw3_GlyphOnce.f, hatstandlaw3_shown.f, Option.bind_some, if_true]
    rw [if_pos g0]
  by_cases g2 : (a2.length : Int) > 20
  · refine Ev.rounds (Ev.congr (fun k => ?_) hj)
    simp only [hatstandlaw3_GlyphOnce.f, hatstandlaw3_shown.f, Option.bind_some, if_true]
    rw [if_neg g0, if_pos g2]
  by_cases g1 : (a1.length : Int) > 20
  · refine Ev.rounds (Ev.congr (fun k => ?_) hj)
    simp only [hatstandlaw3_GlyphOnce.f, hatstandlaw3_shown.f, Option.bind_some, if_true]
    rw [if_neg g0, if_neg g2, if_pos g1]
  by_cases g3 : (a3.length : Int) > 20
  · refine Ev.rounds (Ev.congr (fun k => ?_) hj)
    simp only [hatstandlaw3_GlyphOnce.f, hatstandlaw3_shown.f, Option.bind_some, if_true]
    rw [if_neg g0, if_neg g2, if_neg g1, show decide ((a3.length : Int) > 20) = true from decide_eq_true g3]
  have rd2 : ∀ (x : List (List Int)) (i : Nat), rd_L2 x (i : Int) = x.getD i [] := fun x i => rfl
  -- the last round: both rows are short
  have last : (∀ x ∈ a1, x.length ≤ 20) → (∀ x ∈ a3, x.length ≤ 20) → ∀ i : Nat, Ev (fun k => hatstandlaw3_GlyphOnce.j2 k a0 a1 a2 a3 (i : Int) false) true := by
    intro s1 s3 i
    have r1 := made_row a0 a1 w1 (by omega) s1
    have r2 := made_row a2 a3 w3 (by omega) s3
    have m1 := made_ev a0 a1 w0 (by omega) (by omega)
    have m2 := made_ev a2 a3 w2 (by omega) (by omega)
    have as1 := as_ev (madeF a0 a1) (by have := r1.few; omega)
    have as2 := as_ev (madeF a2 a3) (by have := r2.few; omega)
    have hS : Ev (fun k => (hatstandref3_Same.f k ((madeF a0 a1).map cvE) ((madeF a2 a3).map cvE) false).bind fun t => some (((⟨(putBytes (madeF a0 a1)).toArray⟩ : ByteArray).toList == (⟨(putBytes (madeF a2 a3)).toArray⟩ : ByteArray).toList) == t)) true := by
      rw [toList_data, toList_data]
      by_cases h : SameP false ((madeF a0 a1).map cvE) ((madeF a2 a3).map cvE)
      · refine Ev.bind (same_true _ _ false (short_row _ r1) h) (Ev.congr (fun k => ?_) (Ev.now true))
        rw [(put_inj _ _ r1 r2).2 h]
        simp
      · refine Ev.bind (same_false _ _ false (short_row _ r1) h) (Ev.congr (fun k => ?_) (Ev.now true))
        have hn : ¬ putBytes (madeF a0 a1) = putBytes (madeF a2 a3) := fun e => h ((put_inj _ _ r1 r2).1 e)
        have : ((putBytes (madeF a0 a1)).toArray.toList == (putBytes (madeF a2 a3)).toArray.toList) = false := by
          rw [List.toList_toArray, List.toList_toArray]
          exact beq_eq_false_iff_ne.2 hn
        rw [this]
        rfl
    refine Ev.step (fun k => by rw [hatstandlaw3_GlyphOnce.j2, if_neg (by simp)]) ?_
    refine Ev.bind m1 (Ev.bind m2 ?_)
    rw [put_row _ r1.good r1.putOk, put_row _ r2.good r2.putOk]
    simp only [Option.bind_some, if_true]
    exact Ev.bind as1 (Ev.bind as2 hS)
  have loop : ∀ (m i : Nat), i + m = max a1.length a3.length → (∀ j, j < i → (a1.getD j []).length ≤ 20 ∧ (a3.getD j []).length ≤ 20) → Ev (fun k => hatstandlaw3_GlyphOnce.l0 k a0 a1 a2 a3 (i : Int)) true := by
    intro m
    induction m with
    | zero =>
      intro i hi hs
      have e := last (fun x hx => by
          obtain ⟨j, hj, rfl⟩ := List.mem_iff_getElem.1 hx
          have := (hs j (by omega)).1
          rwa [List.getD_eq_getElem?_getD, List.getElem?_eq_getElem hj] at this) (fun x hx => by
          obtain ⟨j, hj, rfl⟩ := List.mem_iff_getElem.1 hx
          have := (hs j (by omega)).2
          rwa [List.getD_eq_getElem?_getD, List.getElem?_eq_getElem hj] at this) i
      refine Ev.step (fun k => ?_) e
      rw [hatstandlaw3_GlyphOnce.l0, if_neg (by omega), show decide ((i : Int) < (a3.length : Int)) = false from decide_eq_false (by omega)]
    | succ m ih =>
      intro i hi hs
      have hlt : i < a1.length ∨ i < a3.length := by omega
      have hJ : Ev (fun k => hatstandlaw3_GlyphOnce.j2 k a0 a1 a2 a3 (i : Int) true) true := by
        by_cases c1 : (a1.getD i []).length > 10
        · have h1 : i < a1.length := Classical.byContradiction fun hc => by
            rw [List.getD_eq_getElem?_getD, List.getElem?_eq_none (by omega)] at c1
            simp at c1
          refine Ev.step (fun k => ?_) (Ev.now true)
          rw [hatstandlaw3_GlyphOnce.j2, if_pos rfl, if_pos (by omega), if_pos (by omega), rd2, if_pos (by omega)]
        by_cases c3 : (a3.getD i []).length > 10
        · have h3 : i < a3.length := Classical.byContradiction fun hc => by
            rw [List.getD_eq_getElem?_getD, List.getElem?_eq_none (by omega)] at c3
            simp at c3
          refine Ev.step (fun k => ?_) (Ev.now true)
          rw [hatstandlaw3_GlyphOnce.j2, if_pos rfl, rd2, rd2]
          by_cases h1 : (i : Int) < (a1.length : Int)
          · rw [if_pos h1, if_pos (by omega), if_neg (by omega), if_pos (by omega), if_pos (by omega)]
          · rw [if_neg h1, if_pos (by omega), if_pos (by omega), if_pos (by omega)]
        · have e := ih (i + 1) (by omega) (fun j hj => by
            rcases Nat.lt_or_ge j i with h | h
            · exact hs j h
            · obtain rfl : j = i := by omega
              exact ⟨by omega, by omega⟩)
          refine Ev.step (fun k => ?_) e
          rw [hatstandlaw3_GlyphOnce.j2, if_pos rfl, rd2, rd2, wrap64_in ((i : Int) + 1) (by omega)]
          have n1 : ¬ ((a1.getD i []).length : Int) > 10 := by omega
          have n3 : ¬ ((a3.getD i []).length : Int) > 10 := by omega
          by_cases h1 : (i : Int) < (a1.length : Int)
          · by_cases h3 : (i : Int) < (a3.length : Int)
            · rw [if_pos h1, if_pos (by omega), if_neg n1, if_pos h3, if_neg n3]
              rfl
            · rw [if_pos h1, if_pos (by omega), if_neg n1, if_neg h3]
              rfl
          · rw [if_neg h1, if_pos (by omega), if_pos (by omega), if_neg n3]
            rfl
      refine Ev.step (fun k => ?_) hJ
      rw [hatstandlaw3_GlyphOnce.l0]
      by_cases h1 : (i : Int) < (a1.length : Int)
      · rw [if_pos h1]
      · rw [if_neg h1, show decide ((i : Int) < (a3.length : Int)) = true from decide_eq_true (by omega)]
  have main : Ev (fun k => hatstandlaw3_GlyphOnce.j0 k a0 a1 a2 a3 true false) true := Ev.step (fun k => by rw [hatstandlaw3_GlyphOnce.j0, if_neg (by simp)]; rfl) (loop (max a1.length a3.length) 0 (by omega) (fun j hj => by omega))
  refine Ev.rounds (Ev.congr (fun k => ?_) main)
  simp only [hatstandlaw3_GlyphOnce.f, hatstandlaw3_shown.f, Option.bind_some, if_true]
  rw [if_neg g0, if_neg g2, if_neg g1, show decide ((a3.length : Int) > 20) = false from decide_eq_false g3]
end Go.Proofs.YtcldjdngfmakbaaDoor.G

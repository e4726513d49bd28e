/-
  Plain law: blanks between entries change where they stand, and nothing else.
-/
import Derived.Test.YtcldjdngfmakbaaDoorPureBack
import Derived.Test.YtcldjdngfmakbaaDoorGBlanks
namespace Go.Proofs.YtcldjdngfmakbaaDoor.G
open Go.RowKit Go.Proofs.YtcldjdngfmakbaaDoor Go.Proofs.YtcldjdngfmakbaaDoorW.PrintWords Go.Lib
set_option linter.unusedVariables false
set_option linter.unusedSimpArgs false

def strip (e : S33) : Int × List Int × Bool := (e.f0, e.f1, e.f2)
/-- A text whose entries are those, but for where they stand; whatever follows it. -/
def TextOf (bs : List UInt8) (l : List S33) : Prop :=
  ∃ st, okS st ∧ (∀ t, (rl 0 (bs ++ t)).foldl stepP st0 = (rl bs.length t).foldl stepP st) ∧ (endP st).map strip = l.map strip
theorem TextOf.none : TextOf [] [] := ⟨st0, okS0, fun t => rfl, rfl⟩
theorem TextOf.entry {bs : List UInt8} {l : List S33} (h : TextOf bs l) (e : S33) (he : Good e) : TextOf (bs ++ entryBytes e) (l ++ [e]) := by
  obtain ⟨st, o, f, s⟩ := h
  refine ⟨⟨endP st ++ [newE e.f0 bs.length], argRunes e, true⟩, fun _ => by simp, fun t => ?_, ?_⟩
  · rw [List.append_assoc, f, fold_entry_st e he st bs.length t, List.length_append]
  · rw [endP_entry e he, List.map_append, List.map_append, s]
    simp [strip, putAt, he.ok]
theorem TextOf.blank {bs : List UInt8} {l : List S33} (h : TextOf bs l) (c : UInt8) (h1 : c.toNat < 128) (h2 : isBlank (c.toNat : Int) = true) : TextOf (bs ++ [c]) l := by
  obtain ⟨st, o, f, s⟩ := h
  refine ⟨pre (endP st) st0, (fun h => by cases h), fun t => ?_, ?_⟩
  · rw [List.append_assoc, f, List.singleton_append, rl_cons_ascii _ _ _ h1, List.foldl_cons, blank_fold _ _ h2, List.length_append]
    rfl
  · rw [endP_pre _ _ okS0, ← s]
    simp [endP, st0, closeF]
theorem TextOf.parse {bs : List UInt8} {l : List S33} (h : TextOf bs l) : (parseL bs).map strip = l.map strip := by
  obtain ⟨st, o, f, s⟩ := h
  have := f []
  rw [List.append_nil] at this
  unfold parseL
  rw [this, rl_nil]
  exact s
theorem same_strip (a b : List S33) (h : a.map strip = b.map strip) : SameP false (a.map cvE) (b.map cvE) := by
  have hl : a.length = b.length := by have := congrArg List.length h; simpa using this
  refine ⟨by simpa using hl, fun i hi => ?_⟩
  have hi' : i < a.length := by simpa using hi
  rw [map_getD _ _ hi', map_getD _ _ (by omega)]
  have e : strip (a.getD i z33) = strip (b.getD i z33) := by
    have := congrArg (fun l => l[i]?) h
    simp only [List.getElem?_map] at this
    rw [List.getElem?_eq_getElem hi', List.getElem?_eq_getElem (show i < b.length by omega)] at this
    simp only [Option.map_some, Option.some.injEq] at this
    simpa [List.getD, List.getElem?_eq_getElem hi', List.getElem?_eq_getElem (show i < b.length by omega)] using this
  simp only [strip, Prod.mk.injEq] at e
  exact ⟨by show wrap64 _ = wrap64 _; rw [e.1], e.2.2, (fun h => by cases h), e.2.1⟩

theorem wrap64_range (n : Int) : -9223372036854775808 ≤ wrap64 n ∧ wrap64 n ≤ 9223372036854775807 := by unfold wrap64; omega

theorem blanks_l1 (x2 : List Int) (w2 : Wide x2) (h2 : x2.length ≤ 50) (l : List S33) (i : Nat) (hi : i ≤ 50)
    (hr : ∀ x9 : ByteArray, TextOf x9.data.toList (l.take (i + 1)) → x9.size ≤ 504 * (i + 1) → Ev (fun k => hatstandlaw3_GlyphBlanks.l0 k x2 l x9 ((i + 1 : Nat) : Int)) true) :
    ∀ (m j : Nat) (x9 : ByteArray), j + m = 4 → TextOf x9.data.toList (l.take (i + 1)) → x9.size ≤ 504 * i + 500 + j → Ev (fun k => hatstandlaw3_GlyphBlanks.l1 k x2 l x9 (i : Int) (j : Int)) true
  | m, j, x9, hj, ht, hs => by
    by_cases hx : (i : Int) < (x2.length : Int)
    · have hp := pickF_range (x2.getD i 0) 4 (by omega)
      by_cases hn : (j : Int) < pickF (x2.getD i 0) 4
      · cases m with
        | zero => omega
        | succ m =>
        have hq := pickF_range (wrap64 (wrap64 (Int.tdiv (x2.getD i 0) 4) + (j : Int))) 3 (by omega)
        have step : ∀ (c : UInt8), c.toNat < 128 → isBlank (c.toNat : Int) = true → rdOf ByteArray.empty ([(⟨#[32]⟩ : ByteArray), (⟨#[9]⟩ : ByteArray), (⟨#[10]⟩ : ByteArray)]) (pickF (wrap64 (wrap64 (Int.tdiv (x2.getD i 0) 4) + (j : Int))) 3) = ⟨#[c]⟩ →
            Ev (fun k => hatstandlaw3_GlyphBlanks.l1 k x2 l x9 (i : Int) (j : Int)) true := by
          intro c hc1 hc2 hc3
          have s1 : (⟨#[c]⟩ : ByteArray).size = 1 := rfl
          refine Ev.step (fun k => ?_) (blanks_l1 x2 w2 h2 l i hi hr m (j + 1) (x9 ++ ⟨#[c]⟩) (by omega) ?_ (by rw [ByteArray.size_append, s1]; omega))
          · rw [hatstandlaw3_GlyphBlanks.l1, if_pos hx, if_pos (by omega), rdI, pick_eq _ _ (w2.at_ i) (by omega)]
            simp only [Option.bind_some]
            rw [if_pos hn, pick_eq _ _ (wrap64_range _) (by omega)]
            simp only [Option.bind_some]
            rw [if_pos hq.1, if_pos (show pickF (wrap64 (wrap64 (Int.tdiv (x2.getD i 0) 4) + (j : Int))) 3 < (([(⟨#[32]⟩ : ByteArray), (⟨#[9]⟩ : ByteArray), (⟨#[10]⟩ : ByteArray)] : List ByteArray).length : Int) from hq.2), hc3, s1, if_pos (by omega), wrap64_in ((j : Int) + 1) (by omega)]
            rfl
          · have : (x9 ++ (⟨#[c]⟩ : ByteArray)).data.toList = x9.data.toList ++ [c] := by simp
            rw [this]
            exact ht.blank c hc1 hc2
        have h3 : pickF (wrap64 (wrap64 (Int.tdiv (x2.getD i 0) 4) + (j : Int))) 3 = 0 ∨ pickF (wrap64 (wrap64 (Int.tdiv (x2.getD i 0) 4) + (j : Int))) 3 = 1 ∨ pickF (wrap64 (wrap64 (Int.tdiv (x2.getD i 0) 4) + (j : Int))) 3 = 2 := by omega
        rcases h3 with h3 | h3 | h3
        · exact step 32 (by decide) (by decide +kernel) (by rw [h3]; rfl)
        · exact step 9 (by decide) (by decide +kernel) (by rw [h3]; rfl)
        · exact step 10 (by decide) (by decide +kernel) (by rw [h3]; rfl)
      · refine Ev.step (fun k => ?_) (hr x9 ht (by omega))
        rw [hatstandlaw3_GlyphBlanks.l1, if_pos hx, if_pos (by omega), rdI, pick_eq _ _ (w2.at_ i) (by omega)]
        simp only [Option.bind_some]
        rw [if_neg hn, wrap64_in ((i : Int) + 1) (by omega)]
        rfl
    · refine Ev.step (fun k => ?_) (hr x9 ht (by omega))
      rw [hatstandlaw3_GlyphBlanks.l1, if_neg hx, wrap64_in ((i : Int) + 1) (by omega)]
      rfl

theorem blanks_l0 (x2 : List Int) (w2 : Wide x2) (h2 : x2.length ≤ 50) (l : List S33) (hg : ∀ e ∈ l, Good e) (hl : l.length ≤ 50) : ∀ (m i : Nat) (x9 : ByteArray), i + m = l.length → TextOf x9.data.toList (l.take i) → x9.size ≤ 504 * i →
    Ev (fun k => hatstandlaw3_GlyphBlanks.l0 k x2 l x9 (i : Int)) true
  | 0, i, x9, hi, ht, hs => by
    have e : l.take i = l := List.take_of_length_le (by omega)
    rw [e] at ht
    have hlen : x9.data.toList.length = x9.size := by simp
    have hp := ht.parse
    have hS := same_true _ _ false (short_parse x9.data.toList (by omega)) (same_strip _ _ hp)
    have as1 := as_ev l (by omega)
    refine Ev.step (fun k => ?_) (parse_as x9 (by omega) (f := fun k t => (hatstandlaw3_as.f k l).bind fun t' => (hatstandref3_Same.f k t t' false).bind fun t => some t) (Ev.bind as1 (Ev.bind hS (Ev.now true))))
    rw [hatstandlaw3_GlyphBlanks.l0, if_neg (by omega)]
  | m + 1, i, x9, hi, ht, hs => by
    have hil : i < l.length := by omega
    have e : l.getD i z33 = l[i] := by simp [List.getD, List.getElem?_eq_getElem hil]
    have hgi : Good (l.getD i z33) := by rw [e]; exact hg _ (List.getElem_mem hil)
    by_cases h20 : (l.getD i z33).f1.length > 20
    · refine Ev.step (fun k => ?_) (Ev.now true)
      have er : rd_T33 l (i : Int) = l.getD i z33 := rfl
      rw [hatstandlaw3_GlyphBlanks.l0, if_pos (by omega), if_pos (by omega), er, if_pos (by omega)]
    · have r1 : Row [l.getD i z33] := ⟨fun x hx => by rw [List.mem_singleton.1 hx]; exact hgi, by simp, fun x hx => by rw [List.mem_singleton.1 hx]; omega⟩
      have hput : glyph_Put.f ((l.take (i + 1)).drop i) = some (⟨(entryBytes (l.getD i z33)).toArray⟩, 0) := by
        rw [one_entry l i hil, put_row _ r1.good r1.putOk]
        simp [putBytes]
      have hel := entry_len (l.getD i z33) hgi (by omega)
      have hes : (⟨(entryBytes (l.getD i z33)).toArray⟩ : ByteArray).size = (entryBytes (l.getD i z33)).length := by show (entryBytes (l.getD i z33)).toArray.size = _; simp
      have ht' : TextOf (x9 ++ (⟨(entryBytes (l.getD i z33)).toArray⟩ : ByteArray)).data.toList (l.take (i + 1)) := by
        have e1 : (x9 ++ (⟨(entryBytes (l.getD i z33)).toArray⟩ : ByteArray)).data.toList = x9.data.toList ++ entryBytes (l.getD i z33) := by simp
        rw [e1, List.take_add_one, List.getElem?_eq_getElem hil, ← e]
        exact ht.entry _ hgi
      have h1 := blanks_l1 x2 w2 h2 l i (by omega) (fun x9' ht2 hs2 => blanks_l0 x2 w2 h2 l hg hl m (i + 1) x9' (by omega) ht2 hs2) 4 0 (x9 ++ ⟨(entryBytes (l.getD i z33)).toArray⟩) (by omega) ht' (by rw [ByteArray.size_append, hes]; omega)
      refine Ev.step (fun k => ?_) h1
      have er : rd_T33 l (i : Int) = l.getD i z33 := rfl
      rw [hatstandlaw3_GlyphBlanks.l0, if_pos (by omega), if_pos (by omega), er, if_neg (by omega), wrap64_in ((i : Int) + 1) (by omega), if_pos (by omega), if_pos (by omega), Int.toNat_natCast, show ((i : Int) + 1).toNat = i + 1 by omega, hput]
      simp only [Option.bind_some, if_true]
      rw [hes, if_pos (by omega)]
      rfl

theorem blanks_pure (a0 : List Int) (a1 : List (List Int)) (a2 : List Int) (w0 : ∀ y ∈ a0, (Lit.int .i64 y).wf = true) (w1 : ∀ x ∈ a1, ∀ y ∈ x, (Lit.int .u64 y).wf = true) (w2 : ∀ y ∈ a2, (Lit.int .i64 y).wf = true) : ∃ k, hatstandlaw3_GlyphBlanks.f k a0 a1 a2 = some true := by
  have hj : Ev (fun k => hatstandlaw3_GlyphBlanks.j0 k a0 a1 a2 true true) true := Ev.step (fun k => by rw [hatstandlaw3_GlyphBlanks.j0, if_pos rfl]) (Ev.now true)
  by_cases g0 : (a0.length : Int) > 50
  · refine Ev.rounds (Ev.congr (fun k => ?_) hj)
    simp only [hatstandlaw3_GlyphBlanks.f, hatstandlaw3_shown.f, Option.bind_some, if_true]
    rw [if_pos g0]
  by_cases g1 : (a1.length : Int) > 50
  · refine Ev.rounds (Ev.congr (fun k => ?_) hj)
    simp only [hatstandlaw3_GlyphBlanks.f, hatstandlaw3_shown.f, Option.bind_some, if_true]
    rw [if_neg g0, if_pos g1]
  by_cases g2 : (a2.length : Int) > 50
  · refine Ev.rounds (Ev.congr (fun k => ?_) hj)
    simp only [hatstandlaw3_GlyphBlanks.f, hatstandlaw3_shown.f, Option.bind_some, if_true]
    rw [if_neg g0, if_neg g1, show decide ((a2.length : Int) > 50) = true from decide_eq_true g2]
  have hg : ∀ e ∈ madeF a0 a1, Good e := by
    intro e he
    obtain ⟨i, _, rfl⟩ := List.mem_map.1 he
    exact mkE_good a0 a1 w1 i
  have hl := blanks_l0 a2 w2 (by omega) (madeF a0 a1) hg (by rw [madeF_length]; omega) _ 0 ⟨#[]⟩ (Nat.zero_add _) TextOf.none (Nat.le_refl _)
  have main : Ev (fun k => hatstandlaw3_GlyphBlanks.j0 k a0 a1 a2 true false) true := by
    refine Ev.step (fun k => by rw [hatstandlaw3_GlyphBlanks.j0, if_neg (by simp)]) ?_
    exact Ev.bind (made_ev a0 a1 w0 (by omega) (by omega)) hl
  refine Ev.rounds (Ev.congr (fun k => ?_) main)
  simp only [hatstandlaw3_GlyphBlanks.f, hatstandlaw3_shown.f, Option.bind_some, if_true]
  rw [if_neg g0, if_neg g1, show decide ((a2.length : Int) > 50) = false from decide_eq_false g2]
end Go.Proofs.YtcldjdngfmakbaaDoor.G

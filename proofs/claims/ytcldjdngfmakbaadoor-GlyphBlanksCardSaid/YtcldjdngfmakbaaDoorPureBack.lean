/-
  Plain law: entries that were put are parsed again, each where its bytes begin.
-/
import Derived.Test.YtcldjdngfmakbaaDoorPureE
import Derived.Test.YtcldjdngfmakbaaDoorG10
namespace Go.Proofs.YtcldjdngfmakbaaDoor.G
open Go.RowKit Go.Proofs.YtcldjdngfmakbaaDoor Go.Proofs.YtcldjdngfmakbaaDoorW.PrintWords Go.Lib
set_option linter.unusedVariables false
set_option linter.unusedSimpArgs false

def off (l : List S33) (i : Nat) : Nat := (putBytes (l.take i)).length
theorem putBytes_app (a b : List S33) : putBytes (a ++ b) = putBytes a ++ putBytes b := by simp [putBytes]
theorem off_succ (l : List S33) (i : Nat) (hi : i < l.length) : off l (i + 1) = off l i + (entryBytes (l.getD i z33)).length := by
  unfold off
  rw [List.take_add_one, List.getElem?_eq_getElem hi, putBytes_app, List.length_append]
  have e : l.getD i z33 = l[i] := by simp [List.getD, List.getElem?_eq_getElem hi]
  rw [e]
  simp [putBytes]
theorem off_all (l : List S33) : off l l.length = (putBytes l).length := by unfold off; rw [List.take_length]
theorem off_le (l : List S33) (i : Nat) : off l i ≤ (putBytes l).length := by
  unfold off
  have : putBytes l = putBytes (l.take i) ++ putBytes (l.drop i) := by rw [← putBytes_app, List.take_append_drop]
  rw [this, List.length_append]
  omega
theorem entry_pos (e : S33) : 0 < (entryBytes e).length := by
  have := List.length_pos_iff.2 (encodeRune_ne e.f0)
  unfold entryBytes
  rw [List.length_append]
  omega
/-- An entry's own bytes, in those of all. -/
theorem put_extract (l : List S33) (i : Nat) (hi : i < l.length) : ((⟨(putBytes l).toArray⟩ : ByteArray).extract (off l i) (off l (i + 1))).toList = entryBytes (l.getD i z33) := by
  rw [toList_data, extract_data, off_succ l i hi]
  have e : l.getD i z33 = l[i] := by simp [List.getD, List.getElem?_eq_getElem hi]
  have h1 : putBytes l = putBytes (l.take i) ++ (entryBytes l[i] ++ putBytes (l.drop (i + 1))) := by
    have : l = l.take i ++ (l[i] :: l.drop (i + 1)) := by rw [List.getElem_cons_drop, List.take_append_drop]
    conv => lhs; rw [this]
    rw [putBytes_app]
    congr 1
  rw [e]
  show (((putBytes l).drop (off l i)).take (off l i + (entryBytes l[i]).length - off l i)) = _
  rw [Nat.add_sub_cancel_left, h1]
  unfold off
  rw [List.drop_left, List.take_left]
theorem one_entry (l : List S33) (i : Nat) (hi : i < l.length) : (l.take (i + 1)).drop i = [l.getD i z33] := by
  have e : l.getD i z33 = l[i] := by simp [List.getD, List.getElem?_eq_getElem hi]
  rw [e, List.take_add_one, List.getElem?_eq_getElem hi]
  rw [List.drop_append_of_le_length (by simp; omega)]
  have : (l.take i).drop i = [] := List.drop_eq_nil_of_le (by simp; omega)
  rw [this]
  rfl
theorem Row.one {l : List S33} (h : Row l) (i : Nat) (hi : i < l.length) : Row [l.getD i z33] := by
  have := h.at_ i hi
  exact ⟨fun e he => by rw [List.mem_singleton.1 he]; exact this.1, by simp, fun e he => by rw [List.mem_singleton.1 he]; exact this.2⟩
theorem put_one (l : List S33) (h : Row l) (i : Nat) (hi : i < l.length) : glyph_Put.f ((l.take (i + 1)).drop i) = some (⟨(entryBytes (l.getD i z33)).toArray⟩, 0) := by
  rw [one_entry l i hi, put_row _ (h.one i hi).good (h.one i hi).putOk]
  simp [putBytes]

theorem back_loop (l : List S33) (h : Row l) : ∀ (m i : Nat), i + m = l.length → Ev (fun k => hatstandlaw3_GlyphBack.l1 k l ⟨(putBytes l).toArray⟩ (placed 0 l) (i : Int)) true := by
  have hlen := placed_length l 0
  have hsz : (⟨(putBytes l).toArray⟩ : ByteArray).size = (putBytes l).length := by show (putBytes l).toArray.size = _; simp
  have hpl := put_len l h.good h.short
  have hfew := h.few
  intro m
  induction m with
  | zero =>
    intro i hi
    refine Ev.step (fun k => ?_) (Ev.now true)
    rw [hatstandlaw3_GlyphBack.l1, hlen, if_neg (by omega)]
  | succ m ih =>
    intro i hi
    have hil : i < l.length := by omega
    have hat : (rd_T33 (placed 0 l) (i : Int)).f3 = (off l i : Nat) := by
      show ((placed 0 l).getD i z33).f3 = _
      rw [placed_get l 0 i hil, Nat.zero_add]
      rfl
    have hlt : off l i < off l (i + 1) := by rw [off_succ l i hil]; have := entry_pos (l.getD i z33); omega
    have hle := off_le l (i + 1)
    have h5 : Ev (fun k => hatstandlaw3_GlyphBack.j5 k l ⟨(putBytes l).toArray⟩ (placed 0 l) (i : Int) (off l (i + 1) : Nat) false) true := by
      refine Ev.step (fun k => ?_) (ih (i + 1) (by omega))
      rw [hatstandlaw3_GlyphBack.j5, if_neg (by simp), if_pos (by omega), wrap64_in _ (by omega), if_pos (by omega), if_pos (by omega), Int.toNat_natCast, show ((i : Int) + 1).toNat = i + 1 by omega, put_one l h i hil]
      simp only [Option.bind_some, if_true]
      rw [hlen, hat, hsz, if_pos (by omega), if_pos (by omega), if_pos (by omega), if_pos (by omega), Int.toNat_natCast, Int.toNat_natCast, put_extract l i hil, toList_data, if_pos (by simp)]
      rfl
    have h4 : Ev (fun k => hatstandlaw3_GlyphBack.j4 k l ⟨(putBytes l).toArray⟩ (placed 0 l) (i : Int) (off l (i + 1) : Nat)) true := by
      refine Ev.step (fun k => ?_) h5
      rw [hatstandlaw3_GlyphBack.j4, hlen, hat, hsz, if_pos (by omega), if_pos (by omega), if_neg (by omega), if_neg (by omega), show decide (((off l (i + 1) : Nat) : Int) > ((putBytes l).length : Int)) = false from decide_eq_false (by omega)]
    refine Ev.step (fun k => ?_) h4
    rw [hatstandlaw3_GlyphBack.l1, hlen, if_pos (by omega), wrap64_in _ (by omega), hsz]
    by_cases hn : i + 1 < l.length
    · have hat2 : (rd_T33 (placed 0 l) ((i : Int) + 1)).f3 = (off l (i + 1) : Nat) := by
        show ((placed 0 l).getD ((i : Int) + 1).toNat z33).f3 = _
        rw [show ((i : Int) + 1).toNat = i + 1 by omega, placed_get l 0 (i + 1) hn, Nat.zero_add]
        rfl
      rw [if_pos (by omega), if_pos (by omega), hat2]
    · have e : i + 1 = l.length := by omega
      rw [if_neg (by omega), e, off_all]

theorem back_pure (a0 : List Int) (a1 : List (List Int)) (w0 : ∀ y ∈ a0, (Lit.int .i64 y).wf = true) (w1 : ∀ x ∈ a1, ∀ y ∈ x, (Lit.int .u64 y).wf = true) : ∃ k, hatstandlaw3_GlyphBack.f k a0 a1 = some true := by
  have hj : Ev (fun k => hatstandlaw3_GlyphBack.j0 k a0 a1 true true) true := Ev.step (fun k => by rw [hatstandlaw3_GlyphBack.j0, if_pos rfl]) (Ev.now true)
  by_cases g0 : (a0.length : Int) > 50
  · refine Ev.rounds (Ev.congr (fun k => ?_) hj)
    simp only [hatstandlaw3_GlyphBack.f, hatstandlaw3_shown.f, Option.bind_some, if_true]
    rw [if_pos g0]
  by_cases g1 : (a1.length : Int) > 50
  · refine Ev.rounds (Ev.congr (fun k => ?_) hj)
    simp only [hatstandlaw3_GlyphBack.f, hatstandlaw3_shown.f, Option.bind_some, if_true]
    rw [if_neg g0, show decide ((a1.length : Int) > 50) = true from decide_eq_true g1]
  have rd2 : ∀ (x : List (List Int)) (i : Nat), rd_L2 x (i : Int) = x.getD i [] := fun x i => rfl
  have last : (∀ x ∈ a1, x.length ≤ 20) → Ev (fun k => (hatstandlaw3_made.f k a0 a1).bind fun t272 => ((glyph_Put.f t272).bind fun bt275 => ((glyph_Parse.f bt275.1).bind fun t277 => (if bt275.2 = 0 then ((hatstandlaw3_as.f k t277).bind fun t280 => ((hatstandlaw3_as.f k t272).bind fun t283 => ((hatstandref3_Same.f k t280 t283 false).bind fun t286 => (hatstandlaw3_GlyphBack.j2 k t272 bt275.1 t277 (!t286))))) else (hatstandlaw3_GlyphBack.j2 k t272 bt275.1 t277 true))))) true := by
    intro s1
    have r := made_row a0 a1 w1 (by omega) s1
    have m1 := made_ev a0 a1 w0 (by omega) (by omega)
    have hf := r.few
    have hpl := put_len _ r.good r.short
    have hp : glyph_Parse.f ⟨(putBytes (madeF a0 a1)).toArray⟩ = some (placed 0 (madeF a0 a1)) := by
      unfold glyph_Parse.f
      rw [if_pos (by show (putBytes (madeF a0 a1)).toArray.size ≤ _; simp; omega), parseF_L]
      congr 1
      exact parse_put _ r.good
    have as1 := as_ev (placed 0 (madeF a0 a1)) (by rw [placed_length]; omega)
    have as2 := as_ev (madeF a0 a1) (by omega)
    refine Ev.bind m1 (Ev.congr (g := _) (fun k => by rw [put_row _ r.good r.putOk]; simp only [Option.bind_some, if_true]; rw [hp]; simp only [Option.bind_some]; rfl) (Ev.bind as1 (Ev.bind as2 (Ev.bind (f := fun k t => hatstandlaw3_GlyphBack.j2 k (madeF a0 a1) ⟨(putBytes (madeF a0 a1)).toArray⟩ (placed 0 (madeF a0 a1)) (!t)) (same_true _ _ false (short_placed _ r 0) (same_placed _ r 0)) ?_))))
    exact Ev.step (fun k => by rw [Bool.not_true, hatstandlaw3_GlyphBack.j2, if_neg (by simp)]; rfl) (back_loop _ r _ 0 (Nat.zero_add _))
  have loop : ∀ (m i : Nat), i + m = a1.length → (∀ j, j < i → (a1.getD j []).length ≤ 20) → Ev (fun k => hatstandlaw3_GlyphBack.l0 k a0 a1 (i : Int)) true := by
    intro m
    induction m with
    | zero =>
      intro i hi hs
      refine Ev.step (fun k => ?_) (last fun x hx => by
          obtain ⟨j, hj, rfl⟩ := List.mem_iff_getElem.1 hx
          have := hs j (by omega)
          rwa [List.getD_eq_getElem?_getD, List.getElem?_eq_getElem hj] at this)
      rw [hatstandlaw3_GlyphBack.l0, if_neg (by omega)]
    | succ m ih =>
      intro i hi hs
      by_cases c1 : (a1.getD i []).length > 20
      · refine Ev.step (fun k => ?_) (Ev.now true)
        rw [hatstandlaw3_GlyphBack.l0, if_pos (by omega), if_pos (by omega), rd2, if_pos (by omega)]
      · refine Ev.step (fun k => ?_) (ih (i + 1) (by omega) (fun j hj => by
            rcases Nat.lt_or_ge j i with h | h
            · exact hs j h
            · obtain rfl : j = i := by omega
              omega))
        rw [hatstandlaw3_GlyphBack.l0, if_pos (by omega), if_pos (by omega), rd2, if_neg (by omega), wrap64_in _ (by omega)]
        rfl
  have main : Ev (fun k => hatstandlaw3_GlyphBack.j0 k a0 a1 true false) true := Ev.step (fun k => by rw [hatstandlaw3_GlyphBack.j0, if_neg (by simp)]; rfl) (loop a1.length 0 (by omega) (fun j hj => by omega))
  refine Ev.rounds (Ev.congr (fun k => ?_) main)
  simp only [hatstandlaw3_GlyphBack.f, hatstandlaw3_shown.f, Option.bind_some, if_true]
  rw [if_neg g0, show decide ((a1.length : Int) > 50) = false from decide_eq_false g1]
end Go.Proofs.YtcldjdngfmakbaaDoor.G

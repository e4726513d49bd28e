/-
  Plain laws: rows of made entries: they may be put, and what is parsed of them is as they were.
-/
import Derived.Test.YtcldjdngfmakbaaDoorPureD
import Derived.Test.YtcldjdngfmakbaaDoorPureA
namespace Go.Proofs.YtcldjdngfmakbaaDoor.G
open Go.RowKit Go.Proofs.YtcldjdngfmakbaaDoor Go.Proofs.YtcldjdngfmakbaaDoorW.PrintWords Go.Lib
set_option linter.unusedVariables false
set_option linter.unusedSimpArgs false

/-- A row of entries that may be put, none of them long. -/
structure Row (l : List S33) : Prop where
  good : ∀ e ∈ l, Good e
  few : l.length ≤ 50
  short : ∀ e ∈ l, e.f1.length ≤ 20

theorem runes_good : ∀ r ∈ runes_, (ofB marks_ r || (!Lib.validRune r || r == 65533)) = false := by decide +kernel
theorem mkE_good (ops : List Int) (args : List (List Int)) (ha : ∀ x ∈ args, ∀ y ∈ x, (Lit.int .u64 y).wf = true) (i : Nat) : Good (mkE ops args i) := by
  refine good_of _ ?_ ?_
  · unfold badE mkE
    have hp := pickF_range (ops.getD i 0) 12 (by omega)
    have hlt : (pickF (ops.getD i 0) 12).toNat < runes_.length := by show _ < 12; omega
    have := runes_good (runes_.getD (pickF (ops.getD i 0) 12).toNat 0) (by
      rw [List.getD_eq_getElem?_getD, List.getElem?_eq_getElem hlt]
      exact List.getElem_mem hlt)
    simpa using this
  · intro x hx
    unfold mkE at hx
    simp only at hx
    by_cases hi : i < args.length
    · rw [List.getD_eq_getElem?_getD, List.getElem?_eq_getElem hi] at hx
      have := ha _ (List.getElem_mem hi) x hx
      have h2 : 0 ≤ x ∧ x ≤ 18446744073709551615 := by simpa [Lit.wf, IntKind.min, IntKind.max, IntKind.signed, IntKind.bits] using this
      omega
    · rw [List.getD_eq_getElem?_getD, List.getElem?_eq_none (by omega)] at hx
      cases hx
theorem mkE_short (ops : List Int) (args : List (List Int)) (n : Nat) (h : ∀ x ∈ args, x.length ≤ n) (i : Nat) : (mkE ops args i).f1.length ≤ n := by
  unfold mkE
  simp only
  by_cases hi : i < args.length
  · rw [List.getD_eq_getElem?_getD, List.getElem?_eq_getElem hi]
    exact h _ (List.getElem_mem hi)
  · rw [List.getD_eq_getElem?_getD, List.getElem?_eq_none (by omega)]
    exact Nat.zero_le _
theorem made_row (ops : List Int) (args : List (List Int)) (ha : ∀ x ∈ args, ∀ y ∈ x, (Lit.int .u64 y).wf = true) (hn : ops.length ≤ 50) (hs : ∀ x ∈ args, x.length ≤ 20) : Row (madeF ops args) := by
  refine ⟨fun e he => ?_, by rw [madeF_length]; exact hn, fun e he => ?_⟩
  · obtain ⟨i, _, rfl⟩ := List.mem_map.1 he
    exact mkE_good ops args ha i
  · obtain ⟨i, _, rfl⟩ := List.mem_map.1 he
    exact mkE_short ops args 20 hs i

theorem sum_le_mul (l : List Nat) (c : Nat) (h : ∀ x ∈ l, x ≤ c) : l.sum ≤ c * l.length := by
  induction l with
  | nil => simp
  | cons x r ih =>
    have := ih (fun y hy => h y (List.mem_cons_of_mem _ hy))
    have h1 := h x (List.mem_cons_self ..)
    rw [List.sum_cons, List.length_cons, Nat.mul_succ]
    omega
theorem Row.putOk {l : List S33} (h : Row l) : putOk l := by
  refine ⟨fun e he => (h.good e he).args, ?_⟩
  have h1 := sum_le_mul (l.map weight) 500 (fun x hx => by
    obtain ⟨e, he, rfl⟩ := List.mem_map.1 hx
    unfold weight
    have := h.short e he
    omega)
  rw [List.length_map] at h1
  have := h.few
  omega
theorem put_row (l : List S33) (h : ∀ e ∈ l, Good e) (ho : putOk l) : glyph_Put.f l = some (⟨(putBytes l).toArray⟩, 0) := by
  unfold glyph_Put.f putF
  rw [if_pos ho, if_neg]
  intro hc
  obtain ⟨e, he, hb⟩ := List.any_eq_true.1 hc
  rw [bad_of_good e (h e he)] at hb
  cases hb
theorem entry_len (e : S33) (h : Good e) (hs : e.f1.length ≤ 20) : (entryBytes e).length ≤ 500 := by
  unfold entryBytes
  have h1 := argsFrom_len false e.f1 h.args
  have h2 : (encodeRune e.f0).length ≤ 4 := by
    unfold encodeRune encodeRuneZ
    split
    · simp
    · split
      · simp
      · split
        · simp
        · split <;> simp
  rw [List.length_append]
  omega
theorem put_len : ∀ (l : List S33), (∀ e ∈ l, Good e) → (∀ e ∈ l, e.f1.length ≤ 20) → (putBytes l).length ≤ 500 * l.length
  | [], _, _ => Nat.le_refl _
  | e :: l, h, hs => by
    have h1 := entry_len e (h e (List.mem_cons_self ..)) (hs e (List.mem_cons_self ..))
    have h2 := put_len l (fun x hx => h x (List.mem_cons_of_mem _ hx)) (fun x hx => hs x (List.mem_cons_of_mem _ hx))
    have : putBytes (e :: l) = entryBytes e ++ putBytes l := by simp [putBytes]
    rw [this, List.length_append, List.length_cons, Nat.mul_succ]
    omega

theorem placed_length : ∀ (l : List S33) (pos : Nat), (placed pos l).length = l.length
  | [], _ => rfl
  | e :: l, pos => by rw [placed, List.length_cons, List.length_cons, placed_length l]
theorem placed_get : ∀ (l : List S33) (pos i : Nat), i < l.length → (placed pos l).getD i z33 = putAt (l.getD i z33) (pos + (putBytes (l.take i)).length)
  | [], _, i, h => by simp at h
  | e :: l, pos, 0, h => by simp [placed, putBytes]
  | e :: l, pos, i + 1, h => by
    have := placed_get l (pos + (entryBytes e).length) i (by simpa using h)
    simp only [placed, List.getD_cons_succ, List.take_succ_cons]
    rw [this]
    have e2 : putBytes (e :: l.take i) = entryBytes e ++ putBytes (l.take i) := by simp [putBytes]
    rw [e2, List.length_append, Nat.add_assoc]
theorem Row.at_ {l : List S33} (h : Row l) (i : Nat) (hi : i < l.length) : Good (l.getD i z33) ∧ (l.getD i z33).f1.length ≤ 20 := by
  have e : l.getD i z33 = l[i] := by simp [List.getD, List.getElem?_eq_getElem hi]
  rw [e]
  exact ⟨h.good _ (List.getElem_mem hi), h.short _ (List.getElem_mem hi)⟩
theorem map_getD (l : List S33) (i : Nat) (hi : i < l.length) : (l.map cvE).getD i z29 = cvE (l.getD i z33) := by
  simp [List.getD, List.getElem?_map, List.getElem?_eq_getElem hi]
theorem short_placed (l : List S33) (h : Row l) (pos : Nat) : Short ((placed pos l).map cvE) := by
  refine ⟨by have := h.few; rw [List.length_map, placed_length]; omega, fun x hx => ?_⟩
  obtain ⟨e, he, rfl⟩ := List.mem_map.1 hx
  obtain ⟨i, hi, rfl⟩ := List.mem_iff_getElem.1 he
  have hi' : i < l.length := by rwa [placed_length] at hi
  have e1 : (placed pos l)[i] = (placed pos l).getD i z33 := by simp [List.getD, List.getElem?_eq_getElem hi]
  rw [e1, placed_get l pos i hi']
  have := (h.at_ i hi').2
  show (l.getD i z33).f1.length < _
  omega
theorem short_row (l : List S33) (h : Row l) : Short (l.map cvE) := by
  refine ⟨by have := h.few; rw [List.length_map]; omega, fun x hx => ?_⟩
  obtain ⟨e, he, rfl⟩ := List.mem_map.1 hx
  have := h.short e he
  show e.f1.length < _
  omega
/-- They are the same, but for where they stand. -/
theorem same_placed (l : List S33) (h : Row l) (pos : Nat) : SameP false ((placed pos l).map cvE) (l.map cvE) := by
  refine ⟨by rw [List.length_map, List.length_map, placed_length], fun i hi => ?_⟩
  have hi' : i < l.length := by rwa [List.length_map, placed_length] at hi
  rw [map_getD _ _ (by rwa [placed_length]), map_getD _ _ hi', placed_get l pos i hi']
  exact ⟨rfl, (h.at_ i hi').1.ok.symm, (fun e => by cases e), rfl⟩
end Go.Proofs.YtcldjdngfmakbaaDoor.G

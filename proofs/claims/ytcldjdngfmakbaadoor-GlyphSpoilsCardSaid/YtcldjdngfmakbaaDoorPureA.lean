/-
  Plain laws: entries as the reference has them, entries that are the same.
-/
import Derived.Test.YtcldjdngfmakbaaDoorGlyphShown
import Derived.Test.YtcldjdngfmakbaaDoorGlyphPut
namespace Go.Proofs.YtcldjdngfmakbaaDoor.G
open Go.RowKit Go.Proofs.YtcldjdngfmakbaaDoor Go.Proofs.YtcldjdngfmakbaaDoorW.PrintWords
set_option linter.unusedVariables false
set_option linter.unusedSimpArgs false

theorem wrap64_in (n : Int) (h : -9223372036854775808 ≤ n ∧ n ≤ 9223372036854775807) : wrap64 n = n := by unfold wrap64; omega
theorem rd29 (a : List S29) (i : Nat) : rd_T29 a (i : Int) = a.getD i z29 := rfl
theorem rdI (a : List Int) (i : Nat) : rd a (i : Int) = a.getD i 0 := rfl
theorem cast_succ (i : Nat) : ((i : Int) + 1) = ((i + 1 : Nat) : Int) := by omega
theorem evTo {α : Type} {g : Nat → Option α} {r r' : α} (h : Ev g r') (e : r' = r) : Ev g r := e ▸ h

def cvE (e : S33) : S29 := ⟨wrap64 e.f0, e.f1, e.f2, e.f3⟩

theorem as_loop (l : List S33) (h : l.length < 2932031007402) : ∀ (m : Nat) (acc : List S29) (i : Nat), i + m = l.length → acc = (l.take i).map cvE → Ev (fun k => hatstandlaw3_as.l0 k l acc (i : Int)) (l.map cvE)
  | 0, acc, i, hm, ha => by
    refine Ev.step (f := fun _ => some acc) (fun k => ?_) (evTo (Ev.now acc) (by rw [ha, List.take_of_length_le (by omega)]))
    simp only [hatstandlaw3_as.l0]
    rw [if_neg (by omega)]
  | m + 1, acc, i, hm, ha => by
    have hal : acc.length = i := by rw [ha]; simp; omega
    refine Ev.step (f := fun k => hatstandlaw3_as.l0 k l (acc ++ [cvE (l.getD i z33)]) ((i + 1 : Nat) : Int)) (fun k => ?_) (as_loop l h m _ (i + 1) (by omega) ?_)
    · simp only [hatstandlaw3_as.l0]
      rw [if_pos (by omega), if_pos (by omega), if_pos (by omega), wrap64_in ((i : Int) + 1) (by omega)]
      rfl
    · rw [ha, List.take_add_one, List.map_append]
      congr 1
      rw [List.getElem?_eq_getElem (by omega)]
      simp [List.getD, List.getElem?_eq_getElem (show i < l.length by omega)]
theorem as_ev (l : List S33) (h : l.length < 2932031007402) : Ev (fun k => hatstandlaw3_as.f k l) (l.map cvE) := as_loop l h l.length [] 0 (by omega) rfl

/-- Entries are the same (and where they stand, if that is asked). -/
def SameE (at_ : Bool) (x y : S29) : Prop := x.f0 = y.f0 ∧ x.f2 = y.f2 ∧ (at_ = true → x.f3 = y.f3) ∧ x.f1 = y.f1
def SameP (at_ : Bool) (a b : List S29) : Prop := a.length = b.length ∧ ∀ i, i < a.length → SameE at_ (a.getD i z29) (b.getD i z29)

theorem ints_ne (xs ys : List Int) (hl : xs.length = ys.length) (h : xs ≠ ys) : ∃ j, j < xs.length ∧ xs.getD j 0 ≠ ys.getD j 0 := by
  refine Classical.byContradiction fun hn => h (List.ext_getElem hl fun j h1 h2 => ?_)
  refine Classical.byContradiction fun hne => hn ⟨j, h1, ?_⟩
  simpa [List.getD, List.getElem?_eq_getElem h1, List.getElem?_eq_getElem h2] using hne

theorem same_l1_true (a b : List S29) (at_ : Bool) (i : Nat) (ha : i < a.length) (hb : i < b.length) (hi : a.length < 9223372036854775807) (he : (a.getD i z29).f1 = (b.getD i z29).f1) (hs : (a.getD i z29).f1.length < 9223372036854775807) {r : Bool}
    (hr : Ev (fun k => hatstandref3_Same.l0 k a b at_ ((i + 1 : Nat) : Int)) r) : ∀ (m j : Nat), j + m = (a.getD i z29).f1.length → Ev (fun k => hatstandref3_Same.l1 k a b at_ (i : Int) (j : Int)) r
  | 0, j, hj => by
    refine Ev.step (fun k => ?_) hr
    rw [hatstandref3_Same.l1, rd29, rd29, rdI, rdI]
    rw [if_pos (by omega), if_pos (by omega), if_neg (by omega), wrap64_in _ (by omega)]
    rfl
  | m + 1, j, hj => by
    refine Ev.step (fun k => ?_) (same_l1_true a b at_ i ha hb hi he hs hr m (j + 1) (by omega))
    rw [hatstandref3_Same.l1, rd29, rd29, rdI, rdI]
    rw [if_pos (by omega), if_pos (by omega), if_pos (by omega), if_pos (by omega), if_pos (by omega), if_pos (by rw [← he]; omega), if_pos (by rw [he]), wrap64_in _ (by omega)]
    rfl
theorem same_l1_false (a b : List S29) (at_ : Bool) (i : Nat) (ha : i < a.length) (hb : i < b.length) (he : (a.getD i z29).f1.length = (b.getD i z29).f1.length) (hs : (a.getD i z29).f1.length < 9223372036854775807) (q : Nat) (hq : q < (a.getD i z29).f1.length) (hne : (a.getD i z29).f1.getD q 0 ≠ (b.getD i z29).f1.getD q 0) :
    ∀ (m j : Nat), j + m = q → Ev (fun k => hatstandref3_Same.l1 k a b at_ (i : Int) (j : Int)) false
  | 0, j, hj => by
    obtain rfl : j = q := by omega
    refine Ev.step (fun k => ?_) (Ev.now false)
    rw [hatstandref3_Same.l1, rd29, rd29, rdI, rdI]
    rw [if_pos (by omega), if_pos (by omega), if_pos (by omega), if_pos (by omega), if_pos (by omega), if_pos (by omega), if_neg hne]
  | m + 1, j, hj => by
    by_cases e : (a.getD i z29).f1.getD j 0 = (b.getD i z29).f1.getD j 0
    · refine Ev.step (fun k => ?_) (same_l1_false a b at_ i ha hb he hs q hq hne m (j + 1) (by omega))
      rw [hatstandref3_Same.l1, rd29, rd29, rdI, rdI]
      rw [if_pos (by omega), if_pos (by omega), if_pos (by omega), if_pos (by omega), if_pos (by omega), if_pos (by omega), if_pos e, wrap64_in _ (by omega)]
      rfl
    · refine Ev.step (fun k => ?_) (Ev.now false)
      rw [hatstandref3_Same.l1, rd29, rd29, rdI, rdI]
      rw [if_pos (by omega), if_pos (by omega), if_pos (by omega), if_pos (by omega), if_pos (by omega), if_pos (by omega), if_neg e]

/-- Their rows are short: as whatever lies in memory. -/
def Short (a : List S29) : Prop := a.length < 9223372036854775807 ∧ ∀ x ∈ a, x.f1.length < 9223372036854775807
theorem Short.at_ {a : List S29} (h : Short a) (i : Nat) (hi : i < a.length) : (a.getD i z29).f1.length < 9223372036854775807 := by
  have : a.getD i z29 = a[i] := by simp [List.getD, List.getElem?_eq_getElem hi]
  rw [this]
  exact h.2 _ (List.getElem_mem hi)

theorem same_round_true (a b : List S29) (at_ : Bool) (hl : a.length = b.length) (ha : Short a) (i : Nat) (hi : i < a.length) (h : SameE at_ (a.getD i z29) (b.getD i z29)) {r : Bool}
    (hr : Ev (fun k => hatstandref3_Same.l0 k a b at_ ((i + 1 : Nat) : Int)) r) : Ev (fun k => hatstandref3_Same.l0 k a b at_ (i : Int)) r := by
  obtain ⟨h0, h2, h3, h1⟩ := h
  have hs := ha.at_ i hi
  have hL := same_l1_true a b at_ i hi (by omega) ha.1 h1 hs hr _ 0 (Nat.zero_add _)
  have hJ : Ev (fun k => hatstandref3_Same.j1 k a b at_ (i : Int) false) r := Ev.step (fun k => by rw [hatstandref3_Same.j1]; rw [if_neg (by simp)]; rfl) hL
  refine Ev.step (fun k => ?_) hJ
  rw [hatstandref3_Same.l0, rd29, rd29]
  rw [if_pos (by omega), if_pos (by omega), if_pos (by omega), if_pos h0, if_neg (by rw [h2]; simp)]
  cases at_ with
  | true => rw [if_pos rfl, if_pos (h3 rfl)]; congr 1; rw [h1]; simp
  | false => rw [if_neg (by simp)]; congr 1; rw [h1]; simp

theorem same_round_false (a b : List S29) (at_ : Bool) (hl : a.length = b.length) (ha : Short a) (i : Nat) (hi : i < a.length) (h : ¬ SameE at_ (a.getD i z29) (b.getD i z29)) :
    Ev (fun k => hatstandref3_Same.l0 k a b at_ (i : Int)) false := by
  have hs := ha.at_ i hi
  have hT : Ev (fun k => hatstandref3_Same.j1 k a b at_ (i : Int) true) false := Ev.step (fun k => by rw [hatstandref3_Same.j1]; rw [if_pos rfl]) (Ev.now false)
  by_cases h0 : (a.getD i z29).f0 = (b.getD i z29).f0
  · by_cases h2 : (a.getD i z29).f2 = (b.getD i z29).f2
    · by_cases h3 : at_ = true ∧ (a.getD i z29).f3 ≠ (b.getD i z29).f3
      · refine Ev.step (fun k => ?_) hT
        rw [hatstandref3_Same.l0, rd29, rd29]
        rw [if_pos (by omega), if_pos (by omega), if_pos (by omega), if_pos h0, if_neg (by rw [h2]; simp), if_pos h3.1, if_neg h3.2]
      · have h3' : at_ = true → (a.getD i z29).f3 = (b.getD i z29).f3 := fun e => Classical.byContradiction fun hn => h3 ⟨e, hn⟩
        have hn1 : (a.getD i z29).f1 ≠ (b.getD i z29).f1 := fun e => h ⟨h0, h2, h3', e⟩
        have hX : Ev (fun k => hatstandref3_Same.j1 k a b at_ (i : Int) ((((a.getD i z29).f1.length : Int)) != (((b.getD i z29).f1.length : Int)))) false := by
          by_cases hlen : (a.getD i z29).f1.length = (b.getD i z29).f1.length
          · obtain ⟨q, hq, hne⟩ := ints_ne _ _ hlen hn1
            refine Ev.step (fun k => ?_) (same_l1_false a b at_ i hi (by omega) hlen hs q hq hne q 0 (Nat.zero_add _))
            rw [hatstandref3_Same.j1]
            rw [if_neg (by rw [hlen]; simp)]
            rfl
          · refine Ev.step (fun k => ?_) (Ev.now false)
            rw [hatstandref3_Same.j1]
            rw [if_pos (bne_iff_ne.2 (by omega))]
        refine Ev.step (fun k => ?_) hX
        rw [hatstandref3_Same.l0, rd29, rd29]
        rw [if_pos (by omega), if_pos (by omega), if_pos (by omega), if_pos h0, if_neg (by rw [h2]; simp)]
        cases at_ with
        | true => rw [if_pos rfl, if_pos (h3' rfl)]
        | false => rw [if_neg (by simp)]
    · refine Ev.step (fun k => ?_) hT
      rw [hatstandref3_Same.l0, rd29, rd29]
      rw [if_pos (by omega), if_pos (by omega), if_pos (by omega), if_pos h0, if_pos (by simpa using h2)]
  · refine Ev.step (fun k => ?_) hT
    rw [hatstandref3_Same.l0, rd29, rd29]
    rw [if_pos (by omega), if_pos (by omega), if_pos (by omega), if_neg h0]

theorem same_loop_true (a b : List S29) (at_ : Bool) (hl : a.length = b.length) (ha : Short a) : ∀ (m i : Nat), i + m = a.length → (∀ j, i ≤ j → j < a.length → SameE at_ (a.getD j z29) (b.getD j z29)) → Ev (fun k => hatstandref3_Same.l0 k a b at_ (i : Int)) true
  | 0, i, hm, h => Ev.step (fun k => by simp only [hatstandref3_Same.l0]; rw [if_neg (by omega)]) (Ev.now true)
  | m + 1, i, hm, h => same_round_true a b at_ hl ha i (by omega) (h i (Nat.le_refl _) (by omega)) (same_loop_true a b at_ hl ha m (i + 1) (by omega) (fun j h1 h2 => h j (by omega) h2))
theorem same_loop_false (a b : List S29) (at_ : Bool) (hl : a.length = b.length) (ha : Short a) (q : Nat) (hq : q < a.length) (hn : ¬ SameE at_ (a.getD q z29) (b.getD q z29)) : ∀ (m i : Nat), i + m = q → Ev (fun k => hatstandref3_Same.l0 k a b at_ (i : Int)) false
  | 0, i, hm => by
    obtain rfl : i = q := by omega
    exact same_round_false a b at_ hl ha i hq hn
  | m + 1, i, hm => by
    by_cases h : SameE at_ (a.getD i z29) (b.getD i z29)
    · exact same_round_true a b at_ hl ha i (by omega) h (same_loop_false a b at_ hl ha q hq hn m (i + 1) (by omega))
    · exact same_round_false a b at_ hl ha i (by omega) h

theorem same_true (a b : List S29) (at_ : Bool) (ha : Short a) (h : SameP at_ a b) : Ev (fun k => hatstandref3_Same.f k a b at_) true := by
  refine Ev.congr (fun k => ?_) (same_loop_true a b at_ h.1 ha a.length 0 (by omega) (fun j _ hj => h.2 j hj))
  unfold hatstandref3_Same.f
  rw [if_pos (by rw [h.1])]
  rfl
theorem same_false (a b : List S29) (at_ : Bool) (ha : Short a) (h : ¬ SameP at_ a b) : Ev (fun k => hatstandref3_Same.f k a b at_) false := by
  by_cases hl : a.length = b.length
  · obtain ⟨q, hq⟩ : ∃ q, ¬ (q < a.length → SameE at_ (a.getD q z29) (b.getD q z29)) := Classical.byContradiction fun hc => h ⟨hl, fun i => Classical.byContradiction fun hn => hc ⟨i, hn⟩⟩
    have h1 : q < a.length := Classical.byContradiction fun hc => hq fun hh => absurd hh hc
    refine Ev.congr (fun k => ?_) (same_loop_false a b at_ hl ha q h1 (fun hs => hq fun _ => hs) q 0 (Nat.zero_add _))
    unfold hatstandref3_Same.f
    rw [if_pos (by rw [hl])]
    rfl
  · refine Ev.congr (fun k => ?_) (Ev.now false)
    unfold hatstandref3_Same.f
    rw [if_neg (by omega)]

theorem same_self (a : List S29) (at_ : Bool) : SameP at_ a a := ⟨rfl, fun _ _ => ⟨rfl, rfl, fun _ => rfl, rfl⟩⟩

end Go.Proofs.YtcldjdngfmakbaaDoor.G

/-
  Plain laws: entries as the reference has them, entries that are the same.
  Plain laws: a text's runes, part by part; the entries of a text with a blank in it.
  Plain laws: how many entries a text has, where they stand, how many numbers they have.
  Plain laws: entries that may be put, and their bytes: what is parsed of them.
  Plain laws: what is parsed of entries that were put.
  Plain laws: the reference's own decoding, numbers and bytes are the library's.
  Plain laws: the reference's own numbers, and rows of numbers, are the program's.
  Plain laws: what the reference parses is what the program parses.
  Plain laws: what the reference puts is what the program puts; the law.
  Plain law: the entries of any text, and the text of any entries, or that they have none, are as the chapter says.
-/
import Derived.Test.YtcldjdngfmakbaaDoorGlyphShown
import Derived.Test.YtcldjdngfmakbaaDoorGlyphPut
import Derived.Test.YtcldjdngfmakbaaDoorParse
import Derived.Lib.MapLaws
import Derived.Lib.TrimAscii
import Derived.Test.YtcldjdngfmakbaaDoorPut
import Derived.Test.YtcldjdngfmakbaaDoorG6
import Derived.Test.YtcldjdngfmakbaaDoorG7
import Derived.Test.YtcldjdngfmakbaaDoorG8
import Derived.Lib.ParseIntBCases
import Derived.Test.YtcldjdngfmakbaaDoorG9
import Derived.Test.YtcldjdngfmakbaaDoorCardEntry
namespace Go.Proofs.YtcldjdngfmakbaaDoor.G
open Go.RowKit Go.Proofs.YtcldjdngfmakbaaDoor Go.Proofs.YtcldjdngfmakbaaDoorW.PrintWords
set_option linter.unusedVariables false
set_option linter.unusedSimpArgs false

theorem wrap64_in (n : Int) (h : -9223372036854775808 ≤ n ∧ n ≤ 9223372036854775807) : wrap64 n = n := by unfold wrap64; omega
theorem rd29 (a : List S29) (i : Nat) : rd_T29 a (i : Int) = a.getD i z29 := rfl
theorem rdI (a : List Int) (i : Nat) : rd a (i : Int) = a.getD i 0 := rfl
theorem cast_succ (i : Nat) : ((i : Int) + 1) = ((i + 1 : Nat) : Int) := by omega
theorem evTo {α : Type} {g : Nat → Option α} {r r' : α} (h : Ev g r') (e : r' = r) : Ev g r := e ▸ h

def cvE (e : S33) : S29 := ⟨wrap64 e.f0, e.f1, e.f2, e.f3⟩

theorem as_loop (l : List S33) (h : l.length < 2932031007402) : ∀ (m : Nat) (acc : List S29) (i : Nat), i + m = l.length → acc = (l.take i).map cvE → Ev (fun k => hatstandlaw3_as.l0 k l acc (i : Int)) (l.map cvE)
  | 0, acc, i, hm, ha => by
    refine Ev.step (f := fun _ => some acc) (fun k => ?_) (evTo (Ev.now acc) (by rw [ha, List.take_of_length_le (by omega)]))
    simp only [hatstandlaw3_as.l0]
    rw [if_neg (by omega)]
  | m + 1, acc, i, hm, ha => by
    have hal : acc.length = i := by rw [ha]; simp; omega
    refine Ev.step (f := fun k => hatstandlaw3_as.l0 k l (acc ++ [cvE (l.getD i z33)]) ((i + 1 : Nat) : Int)) (fun k => ?_) (as_loop l h m _ (i + 1) (by omega) ?_)
    · simp only [hatstandlaw3_as.l0]
      rw [if_pos (by omega), if_pos (by omega), if_pos (by omega), wrap64_in ((i : Int) + 1) (by omega)]
      rfl
    · rw [ha, List.take_add_one, List.map_append]
      congr 1
      rw [List.getElem?_eq_getElem (by omega)]
      simp [List.getD, List.getElem?_eq_getElem (show i < l.length by omega)]
theorem as_ev (l : List S33) (h : l.length < 2932031007402) : Ev (fun k => hatstandlaw3_as.f k l) (l.map cvE) := as_loop l h l.length [] 0 (by omega) rfl

/-- Entries are the same (and where they stand, if that is asked). -/
def SameE (at_ : Bool) (x y : S29) : Prop := x.f0 = y.f0 ∧ x.f2 = y.f2 ∧ (at_ = true → x.f3 = y.f3) ∧ x.f1 = y.f1
def SameP (at_ : Bool) (a b : List S29) : Prop := a.length = b.length ∧ ∀ i, i < a.length → SameE at_ (a.getD i z29) (b.getD i z29)

theorem ints_ne (xs ys : List Int) (hl : xs.length = ys.length) (h : xs ≠ ys) : ∃ j, j < xs.length ∧ xs.getD j 0 ≠ ys.getD j 0 := by
  refine Classical.byContradiction fun hn => h (List.ext_getElem hl fun j h1 h2 => ?_)
  refine Classical.byContradiction fun hne => hn ⟨j, h1, ?_⟩
  simpa [List.getD, List.getElem?_eq_getElem h1, List.getElem?_eq_getElem h2] using hne

theorem same_l1_true (a b : List S29) (at_ : Bool) (i : Nat) (ha : i < a.length) (hb : i < b.length) (hi : a.length < 9223372036854775807) (he : (a.getD i z29).f1 = (b.getD i z29).f1) (hs : (a.getD i z29).f1.length < 9223372036854775807) {r : Bool}
    (hr : Ev (fun k => hatstandref3_Same.l0 k a b at_ ((i + 1 : Nat) : Int)) r) : ∀ (m j : Nat), j + m = (a.getD i z29).f1.length → Ev (fun k => hatstandref3_Same.l1 k a b at_ (i : Int) (j : Int)) r
  | 0, j, hj => by
    refine Ev.step (fun k => ?_) hr
    rw [hatstandref3_Same.l1, rd29, rd29, rdI, rdI]
    rw [if_pos (by omega), if_pos (by omega), if_neg (by omega), wrap64_in _ (by omega)]
    rfl
  | m + 1, j, hj => by
    refine Ev.step (fun k => ?_) (same_l1_true a b at_ i ha hb hi he hs hr m (j + 1) (by omega))
    rw [hatstandref3_Same.l1, rd29, rd29, rdI, rdI]
    rw [if_pos (by omega), if_pos (by omega), if_pos (by omega), if_pos (by omega), if_pos (by omega), if_pos (by rw [← he]; omega), if_pos (by rw [he]), wrap64_in _ (by omega)]
    rfl
theorem same_l1_false (a b : List S29) (at_ : Bool) (i : Nat) (ha : i < a.length) (hb : i < b.length) (he : (a.getD i z29).f1.length = (b.getD i z29).f1.length) (hs : (a.getD i z29).f1.length < 9223372036854775807) (q : Nat) (hq : q < (a.getD i z29).f1.length) (hne : (a.getD i z29).f1.getD q 0 ≠ (b.getD i z29).f1.getD q 0) :
    ∀ (m j : Nat), j + m = q → Ev (fun k => hatstandref3_Same.l1 k a b at_ (i : Int) (j : Int)) false
  | 0, j, hj => by
    obtain rfl : j = q := by omega
    refine Ev.step (fun k => ?_) (Ev.now false)
    rw [hatstandref3_Same.l1, rd29, rd29, rdI, rdI]
    rw [if_pos (by omega), if_pos (by omega), if_pos (by omega), if_pos (by omega), if_pos (by omega), if_pos (by omega), if_neg hne]
  | m + 1, j, hj => by
    by_cases e : (a.getD i z29).f1.getD j 0 = (b.getD i z29).f1.getD j 0
    · refine Ev.step (fun k => ?_) (same_l1_false a b at_ i ha hb he hs q hq hne m (j + 1) (by omega))
      rw [hatstandref3_Same.l1, rd29, rd29, rdI, rdI]
      rw [if_pos (by omega), if_pos (by omega), if_pos (by omega), if_pos (by omega), if_pos (by omega), if_pos (by omega), if_pos e, wrap64_in _ (by omega)]
      rfl
    · refine Ev.step (fun k => ?_) (Ev.now false)
      rw [hatstandref3_Same.l1, rd29, rd29, rdI, rdI]
      rw [if_pos (by omega), if_pos (by omega), if_pos (by omega), if_pos (by omega), if_pos (by omega), if_pos (by omega), if_neg e]

/-- Their rows are short: as whatever lies in memory. -/
def Short (a : List S29) : Prop := a.length < 9223372036854775807 ∧ ∀ x ∈ a, x.f1.length < 9223372036854775807
theorem Short.at_ {a : List S29} (h : Short a) (i : Nat) (hi : i < a.length) : (a.getD i z29).f1.length < 9223372036854775807 := by
  have : a.getD i z29 = a[i] := by simp [List.getD, List.getElem?_eq_getElem hi]
  rw [this]
  exact h.2 _ (List.getElem_mem hi)

theorem same_round_true (a b : List S29) (at_ : Bool) (hl : a.length = b.length) (ha : Short a) (i : Nat) (hi : i < a.length) (h : SameE at_ (a.getD i z29) (b.getD i z29)) {r : Bool}
    (hr : Ev (fun k => hatstandref3_Same.l0 k a b at_ ((i + 1 : Nat) : Int)) r) : Ev (fun k => hatstandref3_Same.l0 k a b at_ (i : Int)) r := by
  obtain ⟨h0, h2, h3, h1⟩ := h
  have hs := ha.at_ i hi
  have hL := same_l1_true a b at_ i hi (by omega) ha.1 h1 hs hr _ 0 (Nat.zero_add _)
  have hJ : Ev (fun k => hatstandref3_Same.j1 k a b at_ (i : Int) false) r := Ev.step (fun k => by rw [hatstandref3_Same.j1]; rw [if_neg (by simp)]; rfl) hL
  refine Ev.step (fun k => ?_) hJ
  rw [hatstandref3_Same.l0, rd29, rd29]
  rw [if_pos (by omega), if_pos (by omega), if_pos (by omega), if_pos h0, if_neg (by rw [h2]; simp)]
  cases at_ with
  | true => rw [if_pos rfl, if_pos (h3 rfl)]; congr 1; rw [h1]; simp
  | false => rw [if_neg (by simp)]; congr 1; rw [h1]; simp

theorem same_round_false (a b : List S29) (at_ : Bool) (hl : a.length = b.length) (ha : Short a) (i : Nat) (hi : i < a.length) (h : ¬ SameE at_ (a.getD i z29) (b.getD i z29)) :
    Ev (fun k => hatstandref3_Same.l0 k a b at_ (i : Int)) false := by
  have hs := ha.at_ i hi
  have hT : Ev (fun k => hatstandref3_Same.j1 k a b at_ (i : Int) true) false := Ev.step (fun k => by rw [hatstandref3_Same.j1]; rw [if_pos rfl]) (Ev.now false)
  by_cases h0 : (a.getD i z29).f0 = (b.getD i z29).f0
  · by_cases h2 : (a.getD i z29).f2 = (b.getD i z29).f2
    · by_cases h3 : at_ = true ∧ (a.getD i z29).f3 ≠ (b.getD i z29).f3
      · refine Ev.step (fun k => ?_) hT
        rw [hatstandref3_Same.l0, rd29, rd29]
        rw [if_pos (by omega), if_pos (by omega), if_pos (by omega), if_pos h0, if_neg (by rw [h2]; simp), if_pos h3.1, if_neg h3.2]
      · have h3' : at_ = true → (a.getD i z29).f3 = (b.getD i z29).f3 := fun e => Classical.byContradiction fun hn => h3 ⟨e, hn⟩
        have hn1 : (a.getD i z29).f1 ≠ (b.getD i z29).f1 := fun e => h ⟨h0, h2, h3', e⟩
        have hX : Ev (fun k => hatstandref3_Same.j1 k a b at_ (i : Int) ((((a.getD i z29).f1.length : Int)) != (((b.getD i z29).f1.length : Int)))) false := by
          by_cases hlen : (a.getD i z29).f1.length = (b.getD i z29).f1.length
          · obtain ⟨q, hq, hne⟩ := ints_ne _ _ hlen hn1
            refine Ev.step (fun k => ?_) (same_l1_false a b at_ i hi (by omega) hlen hs q hq hne q 0 (Nat.zero_add _))
            rw [hatstandref3_Same.j1]
            rw [if_neg (by rw [hlen]; simp)]
            rfl
          · refine Ev.step (fun k => ?_) (Ev.now false)
            rw [hatstandref3_Same.j1]
            rw [if_pos (bne_iff_ne.2 (by omega))]
        refine Ev.step (fun k => ?_) hX
        rw [hatstandref3_Same.l0, rd29, rd29]
        rw [if_pos (by omega), if_pos (by omega), if_pos (by omega), if_pos h0, if_neg (by rw [h2]; simp)]
        cases at_ with
        | true => rw [if_pos rfl, if_pos (h3' rfl)]
        | false => rw [if_neg (by simp)]
    · refine Ev.step (fun k => ?_) hT
      rw [hatstandref3_Same.l0, rd29, rd29]
      rw [if_pos (by omega), if_pos (by omega), if_pos (by omega), if_pos h0, if_pos (by simpa using h2)]
  · refine Ev.step (fun k => ?_) hT
    rw [hatstandref3_Same.l0, rd29, rd29]
    rw [if_pos (by omega), if_pos (by omega), if_pos (by omega), if_neg h0]

theorem same_loop_true (a b : List S29) (at_ : Bool) (hl : a.length = b.length) (ha : Short a) : ∀ (m i : Nat), i + m = a.length → (∀ j, i ≤ j → j < a.length → SameE at_ (a.getD j z29) (b.getD j z29)) → Ev (fun k => hatstandref3_Same.l0 k a b at_ (i : Int)) true
  | 0, i, hm, h => Ev.step (fun k => by simp only [hatstandref3_Same.l0]; rw [if_neg (by omega)]) (Ev.now true)
  | m + 1, i, hm, h => same_round_true a b at_ hl ha i (by omega) (h i (Nat.le_refl _) (by omega)) (same_loop_true a b at_ hl ha m (i + 1) (by omega) (fun j h1 h2 => h j (by omega) h2))
theorem same_loop_false (a b : List S29) (at_ : Bool) (hl : a.length = b.length) (ha : Short a) (q : Nat) (hq : q < a.length) (hn : ¬ SameE at_ (a.getD q z29) (b.getD q z29)) : ∀ (m i : Nat), i + m = q → Ev (fun k => hatstandref3_Same.l0 k a b at_ (i : Int)) false
  | 0, i, hm => by
    obtain rfl : i = q := by omega
    exact same_round_false a b at_ hl ha i hq hn
  | m + 1, i, hm => by
    by_cases h : SameE at_ (a.getD i z29) (b.getD i z29)
    · exact same_round_true a b at_ hl ha i (by omega) h (same_loop_false a b at_ hl ha q hq hn m (i + 1) (by omega))
    · exact same_round_false a b at_ hl ha i (by omega) h

theorem same_true (a b : List S29) (at_ : Bool) (ha : Short a) (h : SameP at_ a b) : Ev (fun k => hatstandref3_Same.f k a b at_) true := by
  refine Ev.congr (fun k => ?_) (same_loop_true a b at_ h.1 ha a.length 0 (by omega) (fun j _ hj => h.2 j hj))
  unfold hatstandref3_Same.f
  rw [if_pos (by rw [h.1])]
  rfl
theorem same_false (a b : List S29) (at_ : Bool) (ha : Short a) (h : ¬ SameP at_ a b) : Ev (fun k => hatstandref3_Same.f k a b at_) false := by
  by_cases hl : a.length = b.length
  · obtain ⟨q, hq⟩ : ∃ q, ¬ (q < a.length → SameE at_ (a.getD q z29) (b.getD q z29)) := Classical.byContradiction fun hc => h ⟨hl, fun i => Classical.byContradiction fun hn => hc ⟨i, hn⟩⟩
    have h1 : q < a.length := Classical.byContradiction fun hc => hq fun hh => absurd hh hc
    refine Ev.congr (fun k => ?_) (same_loop_false a b at_ hl ha q h1 (fun hs => hq fun _ => hs) q 0 (Nat.zero_add _))
    unfold hatstandref3_Same.f
    rw [if_pos (by rw [hl])]
    rfl
  · refine Ev.congr (fun k => ?_) (Ev.now false)
    unfold hatstandref3_Same.f
    rw [if_neg (by omega)]

theorem same_self (a : List S29) (at_ : Bool) : SameP at_ a a := ⟨rfl, fun _ _ => ⟨rfl, rfl, fun _ => rfl, rfl⟩⟩

end Go.Proofs.YtcldjdngfmakbaaDoor.G

namespace Go.Proofs.YtcldjdngfmakbaaDoor.G
open Go.RowKit Go.Proofs.YtcldjdngfmakbaaDoor Go.Proofs.YtcldjdngfmakbaaDoorW.PrintWords Go.Lib
set_option linter.unusedVariables false
set_option linter.unusedSimpArgs false

/-! ### runes of a list of bytes -/
def rlF : Nat → Nat → List UInt8 → List (Nat × Int)
  | 0, _, _ => []
  | n + 1, pos, l => if l = [] then [] else (pos, ((decodeL l).1 : Int)) :: rlF n (pos + (decodeL l).2) (l.drop (decodeL l).2)
def rl (pos : Nat) (l : List UInt8) : List (Nat × Int) := rlF l.length pos l

theorem rlF_fuel : ∀ (n m pos : Nat) (l : List UInt8), l.length ≤ n → l.length ≤ m → rlF n pos l = rlF m pos l
  | 0, m, pos, l, hn, _ => by
    have e : l = [] := List.length_eq_zero_iff.1 (by omega)
    subst e
    cases m <;> simp [rlF]
  | n + 1, 0, pos, l, _, hm => by
    have e : l = [] := List.length_eq_zero_iff.1 (by omega)
    subst e
    simp [rlF]
  | n + 1, m + 1, pos, l, hn, hm => by
    by_cases e : l = []
    · simp [rlF, e]
    · have hw := decodeL_width l
      have hp := List.length_pos_iff.2 e
      rw [rlF, rlF, if_neg e, if_neg e, rlF_fuel n m _ _ (by rw [List.length_drop]; omega) (by rw [List.length_drop]; omega)]
theorem rl_nil (pos : Nat) : rl pos [] = [] := rfl
theorem rl_step (pos : Nat) (l : List UInt8) (h : l ≠ []) : rl pos l = (pos, ((decodeL l).1 : Int)) :: rl (pos + (decodeL l).2) (l.drop (decodeL l).2) := by
  have hp := List.length_pos_iff.2 h
  have hw := decodeL_width l
  obtain ⟨n, hn⟩ : ∃ n, l.length = n + 1 := ⟨l.length - 1, by omega⟩
  unfold rl
  rw [hn, rlF, if_neg h, rlF_fuel n _ _ _ (by rw [List.length_drop]; omega) (Nat.le_refl _)]

theorem runesFrom_rl (s : ByteArray) : ∀ (fuel pos : Nat), runesFrom s fuel pos = rlF fuel pos (s.data.toList.drop pos)
  | 0, pos => rfl
  | f + 1, pos => by
    have hs : s.data.toList.length = s.size := by simp
    by_cases h : pos < s.size
    · have hne : s.data.toList.drop pos ≠ [] := fun e => by
        have := congrArg List.length e
        rw [List.length_drop] at this
        simp at this
        omega
      rw [runesFrom_step _ _ _ h, rlF, if_neg hne, decodeL_drop, runesFrom_rl s f, List.drop_drop]
    · have e : s.data.toList.drop pos = [] := List.drop_eq_nil_of_le (by omega)
      rw [runesFrom_end _ _ _ h, rlF, if_pos e]
theorem runesOf_rl (s : ByteArray) : runesOf s = rl 0 s.data.toList := by
  unfold runesOf rl
  rw [runesFrom_rl, List.drop_zero]
  congr 1

/-! ### what follows does not matter, where it begins with no continuation byte -/
set_option maxHeartbeats 1000000 in
theorem decodeL_pre (a : List UInt8) (c : UInt8) (b : List UInt8) (ha : a ≠ []) (hc : c.toNat / 64 ≠ 2) : decodeL (a ++ c :: b) = decodeL a := by
  rw [decodeL_N, decodeL_N]
  rcases a with _ | ⟨x0, _ | ⟨x1, _ | ⟨x2, _ | ⟨x3, t⟩⟩⟩⟩
  all_goals first
    | exact absurd rfl ha
    | simp [decodeN, hc]

theorem decodeL_one (c : UInt8) (b : List UInt8) (h : c.toNat < 128) : decodeL (c :: b) = (c.toNat, 1) := decodeL_ascii c b h

theorem rl_app : ∀ (n : Nat) (a : List UInt8) (pos : Nat) (c : UInt8) (b : List UInt8), a.length ≤ n → c.toNat / 64 ≠ 2 → rl pos (a ++ c :: b) = rl pos a ++ rl (pos + a.length) (c :: b)
  | n, [], pos, c, b, _, hc => by simp [rl_nil]
  | 0, x :: a, pos, c, b, h, _ => by simp at h
  | n + 1, x :: a, pos, c, b, h, hc => by
    have hne : x :: a ≠ [] := by simp
    have hw := decodeL_width (x :: a)
    have hle := decodeL_le (x :: a) hne
    rw [rl_step pos (x :: a ++ c :: b) (by simp), decodeL_pre _ _ _ hne hc, rl_step pos (x :: a) hne, List.drop_append_of_le_length hle, List.cons_append,
      rl_app n _ _ c b (by rw [List.length_drop, List.length_cons] at *; omega) hc]
    have e : pos + (decodeL (x :: a)).2 + ((x :: a).drop (decodeL (x :: a)).2).length = pos + (x :: a).length := by
      rw [List.length_drop]
      omega
    rw [e]
theorem rl_cons_ascii (pos : Nat) (c : UInt8) (b : List UInt8) (h : c.toNat < 128) : rl pos (c :: b) = (pos, (c.toNat : Int)) :: rl (pos + 1) b := by
  rw [rl_step _ _ (by simp), decodeL_one c b h]
  rfl
theorem rl_shift : ∀ (n : Nat) (pos d : Nat) (l : List UInt8), l.length ≤ n → rl (pos + d) l = (rl pos l).map (fun p => (p.1 + d, p.2))
  | n, pos, d, [], _ => rfl
  | 0, pos, d, x :: l, h => by simp at h
  | n + 1, pos, d, x :: l, h => by
    have hne : x :: l ≠ [] := by simp
    have hw := decodeL_width (x :: l)
    rw [rl_step _ _ hne, rl_step pos _ hne, List.map_cons, ← rl_shift n _ d _ (by rw [List.length_drop, List.length_cons] at *; omega)]
    congr 2
    omega

/-! ### the fold, behind entries that are shut; moved -/
def shiftE (d : Nat) (e : S33) : S33 := ⟨e.f0, e.f1, e.f2, e.f3 + d⟩
def okS (st : PSt) : Prop := st.opn = true → st.es ≠ []
def pre (E : List S33) (st : PSt) : PSt := ⟨E ++ st.es, st.txt, st.opn⟩
def mv (d : Nat) (st : PSt) : PSt := ⟨st.es.map (shiftE d), st.txt, st.opn⟩

theorem closeF_pre (E es : List S33) (txt : List Int) (opn : Bool) (h : opn = true → es ≠ []) : closeF (E ++ es) txt opn = E ++ closeF es txt opn := by
  unfold closeF
  cases opn with
  | false => rfl
  | true =>
    have hp := List.length_pos_iff.2 (h rfl)
    rw [if_pos rfl, if_pos rfl, List.length_append, List.set_append, if_neg (by omega)]
    congr 1
    have e : E.length + es.length - 1 - E.length = es.length - 1 := by omega
    rw [e]
    congr 2
    simp only [List.getD_eq_getElem?_getD]
    rw [List.getElem?_append_right (by omega), e]
theorem closeF_ne (es : List S33) (txt : List Int) (opn : Bool) : closeF es txt opn = [] ↔ es = [] := by
  rw [← List.length_eq_zero_iff, closeF_length, List.length_eq_zero_iff]
theorem stepP_ok (st : PSt) (p : Nat × Int) (h : okS st) : okS (stepP st p) := by
  unfold stepP
  split
  · intro h1; cases h1
  · split
    · exact h
    · intro _; simp
theorem stepP_pre (E : List S33) (st : PSt) (p : Nat × Int) (h : okS st) : stepP (pre E st) p = pre E (stepP st p) := by
  unfold stepP
  by_cases hb : isBlank p.2 = true
  · rw [if_pos hb, if_pos hb]
    simp only [pre]
    rw [closeF_pre _ _ _ _ h]
  · rw [if_neg hb, if_neg hb]
    by_cases hn : st.opn = true ∧ isNum p.2 = true
    · rw [if_pos hn, if_pos (show (pre E st).opn = true ∧ isNum p.2 = true from hn)]
      rfl
    · rw [if_neg hn, if_neg (show ¬ ((pre E st).opn = true ∧ isNum p.2 = true) from hn)]
      simp only [pre]
      rw [closeF_pre _ _ _ _ h, List.append_assoc]
theorem fold_pre (E : List S33) : ∀ (ps : List (Nat × Int)) (st : PSt), okS st → ps.foldl stepP (pre E st) = pre E (ps.foldl stepP st)
  | [], st, _ => rfl
  | p :: ps, st, h => by rw [List.foldl_cons, List.foldl_cons, stepP_pre E st p h, fold_pre E ps _ (stepP_ok st p h)]
theorem fold_ok : ∀ (ps : List (Nat × Int)) (st : PSt), okS st → okS (ps.foldl stepP st)
  | [], st, h => h
  | p :: ps, st, h => fold_ok ps _ (stepP_ok st p h)
theorem endP_pre (E : List S33) (st : PSt) (h : okS st) : endP (pre E st) = E ++ endP st := closeF_pre _ _ _ _ h

theorem shutE_mv (d : Nat) (e : S33) (txt : List Int) : shutE (shiftE d e) txt = shiftE d (shutE e txt) := by
  unfold shutE shiftE setA
  split <;> rfl
theorem closeF_mv (d : Nat) (es : List S33) (txt : List Int) (opn : Bool) (h : opn = true → es ≠ []) : closeF (es.map (shiftE d)) txt opn = (closeF es txt opn).map (shiftE d) := by
  unfold closeF
  cases opn with
  | false => rfl
  | true =>
    have hp := List.length_pos_iff.2 (h rfl)
    rw [if_pos rfl, if_pos rfl, List.length_map, List.map_set, ← shutE_mv]
    congr 2
    simp only [List.getD_eq_getElem?_getD, List.getElem?_map]
    rw [List.getElem?_eq_getElem (by omega)]
    rfl
theorem stepP_mv (d : Nat) (st : PSt) (p : Nat × Int) (h : okS st) : stepP (mv d st) (p.1 + d, p.2) = mv d (stepP st p) := by
  unfold stepP
  by_cases hb : isBlank p.2 = true
  · rw [if_pos hb, if_pos hb]
    simp only [mv]
    rw [closeF_mv _ _ _ _ h]
  · rw [if_neg hb, if_neg hb]
    by_cases hn : st.opn = true ∧ isNum p.2 = true
    · rw [if_pos hn, if_pos (show (mv d st).opn = true ∧ isNum p.2 = true from hn)]
      rfl
    · rw [if_neg hn, if_neg (show ¬ ((mv d st).opn = true ∧ isNum p.2 = true) from hn)]
      simp only [mv]
      rw [closeF_mv _ _ _ _ h, List.map_append]
      simp [newE, shiftE]
theorem fold_mv (d : Nat) : ∀ (ps : List (Nat × Int)) (st : PSt), okS st → (ps.map (fun p => (p.1 + d, p.2))).foldl stepP (mv d st) = mv d (ps.foldl stepP st)
  | [], st, _ => rfl
  | p :: ps, st, h => by rw [List.map_cons, List.foldl_cons, List.foldl_cons, stepP_mv d st p h, fold_mv d ps _ (stepP_ok st p h)]

/-! ### the entries of a list of bytes -/
def st0 : PSt := ⟨[], [], false⟩
theorem okS0 : okS st0 := fun h => by cases h
def parseL (l : List UInt8) : List S33 := endP ((rl 0 l).foldl stepP st0)
theorem parseF_L (s : ByteArray) : parseF s = parseL s.data.toList := by
  unfold parseF parseL
  rw [runesOf_rl]
  rfl
theorem parseL_at (d : Nat) (l : List UInt8) : endP ((rl d l).foldl stepP st0) = (parseL l).map (shiftE d) := by
  have h := fold_mv d (rl 0 l) st0 okS0
  have e : rl d l = (rl 0 l).map (fun p => (p.1 + d, p.2)) := by
    have := rl_shift l.length 0 d l (Nat.le_refl _)
    rwa [Nat.zero_add] at this
  rw [e]
  have e0 : mv d st0 = st0 := rfl
  rw [e0] at h
  rw [h]
  exact closeF_mv _ _ _ _ (fold_ok _ _ okS0)

theorem blank_fold (st : PSt) (p : Nat × Int) (h : isBlank p.2 = true) : stepP st p = pre (endP st) st0 := by
  unfold stepP
  rw [if_pos h]
  simp [pre, st0, endP]
/-- A blank in a text: its entries are those of both parts. -/
theorem parseL_blank (a : List UInt8) (c : UInt8) (b : List UInt8) (h1 : c.toNat < 128) (h2 : isBlank (c.toNat : Int) = true) : parseL (a ++ c :: b) = parseL a ++ (parseL b).map (shiftE (a.length + 1)) := by
  unfold parseL
  rw [rl_app a.length a 0 c b (Nat.le_refl _) (by omega), rl_cons_ascii _ _ _ h1, List.foldl_append, List.foldl_cons, blank_fold _ _ h2, fold_pre _ _ _ okS0, endP_pre _ _ (fold_ok _ _ okS0), parseL_at (0 + a.length + 1) b, Nat.zero_add]
  rfl
theorem parseL_nil : parseL [] = [] := rfl
end Go.Proofs.YtcldjdngfmakbaaDoor.G

namespace Go.Proofs.YtcldjdngfmakbaaDoor.G
open Go.RowKit Go.Proofs.YtcldjdngfmakbaaDoor Go.Proofs.YtcldjdngfmakbaaDoorW.PrintWords Go.Lib
set_option linter.unusedVariables false
set_option linter.unusedSimpArgs false

/-! ### how many entries, where they stand, how many numbers they have -/
theorem stepP_len (st : PSt) (p : Nat × Int) : (stepP st p).es.length ≤ st.es.length + 1 := by
  unfold stepP
  split
  · simp [closeF_length]
  · split
    · simp
    · simp [closeF_length]
theorem fold_len : ∀ (ps : List (Nat × Int)) (st : PSt), (ps.foldl stepP st).es.length ≤ st.es.length + ps.length
  | [], st => Nat.le_refl _
  | p :: ps, st => by
    have h1 := stepP_len st p
    have h2 := fold_len ps (stepP st p)
    rw [List.foldl_cons, List.length_cons]
    omega
theorem rlF_len : ∀ (n pos : Nat) (l : List UInt8), (rlF n pos l).length ≤ n
  | 0, _, _ => Nat.le_refl _
  | n + 1, pos, l => by
    rw [rlF]
    split
    · simp
    · have := rlF_len n (pos + (decodeL l).2) (l.drop (decodeL l).2)
      rw [List.length_cons]
      omega
theorem rl_len (pos : Nat) (l : List UInt8) : (rl pos l).length ≤ l.length := rlF_len _ _ _
theorem parseL_len (l : List UInt8) : (parseL l).length ≤ l.length := by
  unfold parseL endP
  rw [closeF_length]
  have h1 := fold_len (rl 0 l) st0
  have h2 := rl_len 0 l
  have h3 : st0.es.length = 0 := rfl
  omega

/-- Each entry has a property that opening one, and shutting one, gives. -/
theorem closeF_all (P : S33 → Prop) (N : Nat) (hs : ∀ e txt, txt.length ≤ N → P e → P (shutE e txt)) (es : List S33) (txt : List Int) (opn : Bool) (ht : txt.length ≤ N) (h : ∀ e ∈ es, P e) (hne : opn = true → es ≠ []) : ∀ e ∈ closeF es txt opn, P e := by
  intro e he
  unfold closeF at he
  split at he
  · rename_i ho
    rcases List.mem_or_eq_of_mem_set he with h1 | h1
    · exact h e h1
    · rw [h1]
      have hp := List.length_pos_iff.2 (hne ho)
      refine hs _ _ ht (h _ ?_)
      rw [List.getD_eq_getElem?_getD, List.getElem?_eq_getElem (by omega)]
      exact List.getElem_mem _
  · exact h e he
theorem fold_all (P : S33 → Prop) (N : Nat) (hs : ∀ e txt, txt.length ≤ N → P e → P (shutE e txt)) : ∀ (ps : List (Nat × Int)) (st : PSt), okS st → st.txt.length + ps.length ≤ N → (∀ p ∈ ps, P (newE p.2 p.1)) → (∀ e ∈ st.es, P e) → (∀ e ∈ endP (ps.foldl stepP st), P e)
  | [], st, ho, ht, hn, h => closeF_all P N hs _ _ _ (by simpa using ht) h ho
  | p :: ps, st, ho, ht, hn, h => by
    rw [List.length_cons] at ht
    rw [List.foldl_cons]
    have hc := closeF_all P N hs st.es st.txt st.opn (by omega) h ho
    refine fold_all P N hs ps (stepP st p) (stepP_ok st p ho) ?_ (fun q hq => hn q (List.mem_cons_of_mem _ hq)) ?_
    · unfold stepP
      split
      · simp; omega
      · split
        · rw [List.length_append, List.length_singleton]; omega
        · simp; omega
    · intro e he
      unfold stepP at he
      split at he
      · exact hc e he
      · split at he
        · exact h e he
        · rcases List.mem_append.1 he with h1 | h1
          · exact hc e h1
          · rw [List.mem_singleton.1 h1]
            exact hn _ (List.mem_cons_self ..)

theorem numsFrom_len : ∀ (ps : List ByteArray) (l : List Int), numsFrom ps = some l → l.length = ps.length
  | [], l, h => by
    rw [numsFrom] at h
    cases h
    rfl
  | x :: r, l, h => by
    rw [numsFrom] at h
    split at h
    · cases h
    · cases hr : numsFrom r with
      | none => rw [hr] at h; cases h
      | some q =>
        rw [hr] at h
        cases h
        rw [List.length_cons, List.length_cons, numsFrom_len r q hr]
theorem numsOf_len (s : ByteArray) : (numsOf s).1.length ≤ s.size + 1 := by
  unfold numsOf
  split
  · simp
  · split
    · rename_i l h
      have h1 := numsFrom_len _ _ h
      have h2 := pieces_le s
      simp only
      omega
    · simp
theorem shutE_args (e : S33) (txt : List Int) : (shutE e txt).f1.length ≤ 4 * txt.length + 1 := by
  unfold shutE setA
  split
  · simp
  · have h1 := numsOf_len (runesBytes txt)
    have h2 := runesBytes_size_le txt
    simp only
    omega
theorem parseL_args (l : List UInt8) : ∀ e ∈ parseL l, e.f1.length ≤ 4 * l.length + 1 := by
  refine fold_all (fun e => e.f1.length ≤ 4 * l.length + 1) l.length (fun e txt ht _ => ?_) _ _ okS0 ?_ (fun p _ => by simp [newE]) (fun e he => by cases he)
  · have := shutE_args e txt
    omega
  · have := rl_len 0 l
    have h0 : st0.txt.length = 0 := rfl
    omega
theorem short_parse (l : List UInt8) (h : l.length < 100000000) : Short ((parseL l).map cvE) := by
  refine ⟨by have := parseL_len l; rw [List.length_map]; omega, fun x hx => ?_⟩
  obtain ⟨e, he, rfl⟩ := List.mem_map.1 hx
  have := parseL_args l e he
  show e.f1.length < _
  omega

/-- Where each stands. -/
theorem rlF_at : ∀ (n pos : Nat) (l : List UInt8), ∀ p ∈ rlF n pos l, pos ≤ p.1 ∧ p.1 < pos + l.length
  | 0, _, _, p, h => by cases h
  | n + 1, pos, l, p, h => by
    rw [rlF] at h
    split at h
    · cases h
    · rename_i hne
      have hp := List.length_pos_iff.2 hne
      have hw := decodeL_width l
      have hle := decodeL_le l hne
      rcases List.mem_cons.1 h with rfl | h1
      · exact ⟨Nat.le_refl _, by omega⟩
      · have := rlF_at n _ _ p h1
        rw [List.length_drop] at this
        omega
theorem shutE_at (e : S33) (txt : List Int) : (shutE e txt).f3 = e.f3 := by
  unfold shutE setA
  split <;> rfl
theorem parseL_at_lt (l : List UInt8) : ∀ e ∈ parseL l, 0 ≤ e.f3 ∧ e.f3 < l.length := by
  refine fold_all (fun e => 0 ≤ e.f3 ∧ e.f3 < l.length) l.length (fun e txt ht h => by rw [shutE_at]; exact h) _ _ okS0 ?_ (fun p hp => ?_) (fun e he => by cases he)
  · have := rl_len 0 l
    have h0 : st0.txt.length = 0 := rfl
    omega
  · have := rlF_at _ _ _ p hp
    simp only [newE]
    omega

/-! ### glyph.Parse and as, together -/
theorem parse_as {β : Type} (s : ByteArray) (hs : s.size ≤ 1000000) {f : Nat → List S29 → Option β} {r : β} (h : Ev (fun k => f k ((parseL s.data.toList).map cvE)) r) :
    Ev (fun k => (glyph_Parse.f s).bind fun t => (hatstandlaw3_as.f k t).bind (f k)) r := by
  refine Ev.congr (fun k => ?_) (Ev.bind (as_ev (parseL s.data.toList) (by have := parseL_len s.data.toList; simp at this; omega)) h)
  unfold glyph_Parse.f
  rw [if_pos (by omega), parseF_L]
  rfl

end Go.Proofs.YtcldjdngfmakbaaDoor.G

namespace Go.Proofs.YtcldjdngfmakbaaDoor.G
open Go.RowKit Go.Proofs.YtcldjdngfmakbaaDoor Go.Proofs.YtcldjdngfmakbaaDoorW.PrintWords Go.Lib
set_option linter.unusedVariables false
set_option linter.unusedSimpArgs false

/-! ### parts between commas -/
def splitC : List UInt8 → List (List UInt8)
  | [] => [[]]
  | c :: l => if c = 44 then [] :: splitC l else match splitC l with
    | p :: ps => (c :: p) :: ps
    | [] => [[c]]
theorem splitC_ne (l : List UInt8) : splitC l ≠ [] := by
  cases l with
  | nil => simp [splitC]
  | cons c l =>
    rw [splitC]
    split
    · simp
    · split <;> simp
theorem index_none (l : List UInt8) (h : l.count 44 = 0) : index l [44] = -1 := by
  refine Classical.byContradiction fun hn => ?_
  have hge := index_ge l [44]
  obtain ⟨j, hj⟩ : ∃ j : Nat, index l [44] = j := ⟨(index l [44]).toNat, by omega⟩
  have := count_hit (s := l) (sub := [44]) (by simp) hj
  rw [count_one, h] at this
  omega
theorem splitK_C : ∀ (l : List UInt8), splitK [44] 0 (l.count 44) l = splitC l
  | [] => rfl
  | c :: l => by
    have ih := splitK_C l
    by_cases hc : c = 44
    · subst hc
      have hix : index ((44 : UInt8) :: l) [44] = ((0 : Nat) : Int) := by rw [index]; simp [List.isPrefixOf]
      rw [List.count_cons_self, splitK, hix, splitC, if_pos rfl]
      simp [ih]
    · have hp : ([44] : List UInt8).isPrefixOf (c :: l) = false := by simp [List.isPrefixOf, Ne.symm hc]
      have hix : index (c :: l) [44] = if index l [44] == -1 then -1 else index l [44] + 1 := by rw [index, hp]; simp
      rw [List.count_cons_of_ne (by simpa using hc), splitC, if_neg hc, ← ih]
      cases hk : l.count 44 with
      | zero => simp [splitK]
      | succ k =>
        have hm : ¬ index l [44] = -1 := fun e => by
          have := count_miss e
          rw [count_one, hk] at this
          omega
        have hge := index_ge l [44]
        obtain ⟨j, hj⟩ : ∃ j : Nat, index l [44] = j := ⟨(index l [44]).toNat, by omega⟩
        have hb : ((j : Int) == -1) = false := beq_eq_false_iff_ne.2 (by omega)
        have hb2 : ((j : Int) + 1 == -1) = false := beq_eq_false_iff_ne.2 (by omega)
        simp only [splitK, hix, hj, hb, hb2]
        simp [show ((j : Int) + 1).toNat = j + 1 by omega]
        intro e
        omega
theorem pieces_C (s : ByteArray) : (piecesOf s).map (fun x => x.data.toList) = splitC s.data.toList := by
  unfold piecesOf
  rw [splitB_data, ← splitK_C]
  congr 1
  show count s.data.toList [44] = _
  exact count_one 44 _

/-! ### numbers -/
def numL (l : List UInt8) : Option Nat :=
  match parseUintB 64 l with
  | .ok u => if decDigits u = l then some u else none
  | _ => none
def numsL : List (List UInt8) → Option (List Int)
  | [] => some []
  | x :: r => match numL x with
    | none => none
    | some u => (numsL r).map (fun l => (u : Int) :: l)
def numsOfL (l : List UInt8) : List Int × Bool :=
  if l = [] then ([], true) else match numsL (splitC l) with
  | some l => (l, true)
  | none => ([], false)
theorem numOf_L (x : ByteArray) : numOf x = numL x.data.toList := by
  unfold numOf numL
  split
  · rename_i u h
    simp only [h]
    rw [toList_data, toList_data]
    rfl
  · rename_i h
    split
    · rename_i u hu
      exact absurd hu (h u)
    · rfl
theorem numsFrom_L : ∀ (ps : List ByteArray), numsFrom ps = numsL (ps.map (fun x => x.data.toList))
  | [] => rfl
  | x :: r => by
    rw [numsFrom, List.map_cons, numsL, numOf_L, numsFrom_L r]
    rfl
theorem numsOf_L (s : ByteArray) : numsOf s = numsOfL s.data.toList := by
  unfold numsOf numsOfL
  rw [toList_data, numsFrom_L, pieces_C]
  rfl

theorem parseUintM_snoc (M : Nat) (hM : M ≤ 18446744073709551615) (c : UInt8) (hc : 48 ≤ c.toNat ∧ c.toNat ≤ 57) : ∀ (l : List UInt8) (acc v : Nat), parseUintM M acc l = .ok v → v * 10 + (c.toNat - 48) ≤ M → parseUintM M acc (l ++ [c]) = .ok (v * 10 + (c.toNat - 48))
  | [], acc, v, h, hv => by
    rw [parseUintM] at h
    cases h
    rw [List.nil_append, parseUintM, if_pos hc, if_neg (by omega), if_neg (by omega), parseUintM]
  | x :: l, acc, v, h, hv => by
    rw [parseUintM] at h
    rw [List.cons_append, parseUintM]
    split at h
    · rename_i hx
      rw [if_pos hx]
      split at h
      · cases h
      · rename_i h1
        rw [if_neg h1]
        split at h
        · cases h
        · rename_i h2
          rw [if_neg h2]
          exact parseUintM_snoc M hM c hc l _ v h hv
    · cases h
theorem dig_toNat (i : Nat) (h : i < 10) : (UInt8.ofNat (48 + i)).toNat = 48 + i := by
  rw [UInt8.toNat_ofNat']
  omega
theorem parse_dec (u : Nat) (hu : u ≤ 18446744073709551615) : parseUintM 18446744073709551615 0 (decDigits u) = .ok u := by
  rw [decDigits]
  by_cases h : u < 10
  · rw [dif_pos h, parseUintM, dig_toNat u h, if_pos (by omega), if_neg (by omega), if_neg (by omega), parseUintM]
    congr 1
    omega
  · rw [dif_neg h]
    have ih := parse_dec (u / 10) (by omega)
    have hd := dig_toNat (u % 10) (by omega)
    rw [parseUintM_snoc _ (Nat.le_refl _) _ (by rw [hd]; omega) _ _ _ ih (by rw [hd]; omega), hd]
    congr 1
    omega
termination_by u
decreasing_by omega
theorem decDigits_ne (u : Nat) : decDigits u ≠ [] := by
  rw [decDigits]
  split <;> simp
theorem numL_dec (u : Nat) (hu : u < 18446744073709551616) : numL (decDigits u) = some u := by
  unfold numL parseUintB
  rw [if_neg (decDigits_ne u), show 2 ^ 64 - 1 = 18446744073709551615 by decide, parse_dec u (by omega)]
  simp

/-- Digits, and nothing else. -/
theorem decDigits_dig (u : Nat) : ∀ c ∈ decDigits u, 48 ≤ c.toNat ∧ c.toNat ≤ 57 := by
    intro c hc
    rw [decDigits] at hc
    by_cases h : u < 10
    · rw [dif_pos h] at hc
      rw [List.mem_singleton.1 hc, dig_toNat u h]
      omega
    · rw [dif_neg h] at hc
      rcases List.mem_append.1 hc with h1 | h1
      · exact decDigits_dig (u / 10) c h1
      · rw [List.mem_singleton.1 h1, dig_toNat _ (by omega)]
        omega
termination_by u
decreasing_by omega
theorem splitC_pre : ∀ (a l : List UInt8), (∀ c ∈ a, c ≠ 44) → splitC (a ++ l) = match splitC l with | p :: ps => (a ++ p) :: ps | [] => [a]
  | [], l, _ => by
    have := splitC_ne l
    cases h : splitC l with
    | nil => exact absurd h this
    | cons p ps => simp [h]
  | c :: a, l, h => by
    have ih := splitC_pre a l (fun x hx => h x (List.mem_cons_of_mem _ hx))
    have hc := h c (List.mem_cons_self ..)
    rw [List.cons_append, splitC, if_neg hc, ih]
    cases splitC l <;> rfl
theorem dec_no_comma (u : Nat) : ∀ c ∈ decDigits u, c ≠ 44 := fun c hc e => by
  have := decDigits_dig u c hc
  rw [e] at this
  exact absurd this.1 (by decide)
def okArgs (xs : List Int) : Prop := ∀ x ∈ xs, 0 ≤ x ∧ x < 18446744073709551616
theorem split_args : ∀ (xs : List Int), splitC (argsFrom true xs) = [] :: xs.map (fun x => decDigits x.toNat) ∨ xs = []
  | [] => .inr rfl
  | x :: r => by
    refine .inl ?_
    rw [argsFrom, if_pos rfl, List.singleton_append, splitC, if_pos rfl, splitC_pre _ _ (dec_no_comma _), List.map_cons]
    rcases split_args r with h | h
    · rw [h]
      simp
    · rw [h]
      simp [argsFrom, splitC]
theorem numsL_dec : ∀ (xs : List Int), okArgs xs → numsL (xs.map (fun x => decDigits x.toNat)) = some xs
  | [], _ => rfl
  | x :: r, h => by
    have hx := h x (List.mem_cons_self ..)
    rw [List.map_cons, numsL, numL_dec _ (by omega), numsL_dec r (fun y hy => h y (List.mem_cons_of_mem _ hy))]
    simp
    omega
theorem numsOfL_args (xs : List Int) (h : okArgs xs) : numsOfL (argsFrom false xs) = (xs, true) := by
  cases xs with
  | nil => rfl
  | cons x r =>
    have hne : argsFrom false (x :: r) ≠ [] := by
      rw [argsFrom]
      simp [decDigits_ne]
    have hs : splitC (argsFrom false (x :: r)) = (x :: r).map (fun x => decDigits x.toNat) := by
      rw [argsFrom, if_neg (by simp), List.nil_append, splitC_pre _ _ (dec_no_comma _), List.map_cons]
      rcases split_args r with h1 | h1
      · rw [h1]
        simp
      · rw [h1]
        simp [argsFrom, splitC]
    unfold numsOfL
    rw [if_neg hne, hs, numsL_dec _ h]
end Go.Proofs.YtcldjdngfmakbaaDoor.G

namespace Go.Proofs.YtcldjdngfmakbaaDoor.G
open Go.RowKit Go.Proofs.YtcldjdngfmakbaaDoor Go.Proofs.YtcldjdngfmakbaaDoorW.PrintWords Go.Lib
set_option linter.unusedVariables false
set_option linter.unusedSimpArgs false

/-! ### a rune's bytes -/
theorem u8_of (z : Int) (h : 0 ≤ z ∧ z < 256) : (z.toNat.toUInt8).toNat = z.toNat := by
  show (UInt8.ofNat z.toNat).toNat = _
  rw [UInt8.toNat_ofNat']
  omega
set_option maxHeartbeats 1000000 in
theorem decodeL_encode (r : Int) (hv : Lib.validRune r = true) (t : List UInt8) : decodeL (encodeRune r ++ t) = (r.toNat, (encodeRune r).length) := by
  have hv' : (0 ≤ r ∧ r < 0xD800) ∨ (0xDFFF < r ∧ r ≤ 0x10FFFF) := by simpa [Lib.validRune] using hv
  rw [decodeL_N]
  unfold encodeRune
  by_cases h1 : 0 ≤ r ∧ r ≤ 127
  · rw [encodeRuneZ_one h1.1 h1.2]
    have e0 := u8_of r (by omega)
    simp only [List.map_cons, List.map_nil, List.cons_append, List.nil_append, List.getD_cons_zero, List.length_cons, List.length_nil, e0]
    rw [decodeN, if_pos (by omega)]
  by_cases h2 : 128 ≤ r ∧ r ≤ 2047
  · rw [encodeRuneZ_two h2.1 h2.2]
    have e0 := u8_of (192 + r / 64) (by omega)
    have e1 := u8_of (128 + r % 64) (by omega)
    simp only [List.map_cons, List.map_nil, List.cons_append, List.nil_append, List.getD_cons_zero, List.getD_cons_succ, List.length_cons, List.length_nil, e0, e1]
    rw [decodeN, if_neg (by omega), if_pos (by omega), if_pos (by omega)]
    congr 1
    omega
  by_cases h3 : (2048 ≤ r ∧ r < 55296) ∨ (57343 < r ∧ r ≤ 65535)
  · rw [encodeRuneZ_three h3]
    have e0 := u8_of (224 + r / 4096) (by omega)
    have e1 := u8_of (128 + r / 64 % 64) (by omega)
    have e2 := u8_of (128 + r % 64) (by omega)
    simp only [List.map_cons, List.map_nil, List.cons_append, List.nil_append, List.getD_cons_zero, List.getD_cons_succ, List.length_cons, List.length_nil, e0, e1, e2]
    rw [decodeN, if_neg (by omega), if_neg (by omega), if_pos (by omega), if_pos (by omega)]
    congr 1
    omega
  · have h4 : 65536 ≤ r ∧ r ≤ 1114111 := by omega
    have hz : encodeRuneZ r = [240 + r / 262144, 128 + r / 4096 % 64, 128 + r / 64 % 64, 128 + r % 64] := by
      simp only [encodeRuneZ, if_neg h1, if_neg h2, if_neg h3, if_pos h4]
    rw [hz]
    have e0 := u8_of (240 + r / 262144) (by omega)
    have e1 := u8_of (128 + r / 4096 % 64) (by omega)
    have e2 := u8_of (128 + r / 64 % 64) (by omega)
    have e3 := u8_of (128 + r % 64) (by omega)
    simp only [List.map_cons, List.map_nil, List.cons_append, List.nil_append, List.getD_cons_zero, List.getD_cons_succ, List.length_cons, List.length_nil, e0, e1, e2, e3]
    rw [decodeN, if_neg (by omega), if_neg (by omega), if_neg (by omega), if_pos (by omega), if_pos (by omega)]
    congr 1
    omega
theorem encodeRune_ne (r : Int) : encodeRune r ≠ [] := by
  unfold encodeRune encodeRuneZ
  split
  · simp
  · split
    · simp
    · split
      · simp
      · split <;> simp

/-! ### which runes are marks -/
theorem hasB_iff (l : List (Nat × Int)) (r : Int) : hasB l r = true ↔ r ∈ l.map (·.2) := by
  unfold hasB
  rw [List.any_eq_true, List.mem_map]
  constructor
  · rintro ⟨p, hp, h⟩
    exact ⟨p, hp, by simpa using h⟩
  · rintro ⟨p, hp, h⟩
    exact ⟨p, hp, by simpa using h⟩
theorem marks_runes : (runesOf marks_).map (·.2) = [32, 9, 10, 48, 49, 50, 51, 52, 53, 54, 55, 56, 57, 44] := by decide +kernel
theorem blanks_runes : (runesOf blanks_).map (·.2) = [32, 9, 10] := by decide +kernel
theorem digs_runes : (runesOf digs_).map (·.2) = [48, 49, 50, 51, 52, 53, 54, 55, 56, 57, 44] := by decide +kernel
theorem isBlank_iff (r : Int) : isBlank r = true ↔ r = 32 ∨ r = 9 ∨ r = 10 := by
  unfold isBlank ofB
  rw [Bool.and_eq_true, hasB_iff, blanks_runes]
  simp only [List.mem_cons, List.not_mem_nil, or_false, bne_iff_ne, ne_eq]
  omega
theorem isNum_iff (r : Int) : isNum r = true ↔ (48 ≤ r ∧ r ≤ 57) ∨ r = 44 := by
  unfold isNum ofB
  rw [Bool.and_eq_true, hasB_iff, digs_runes]
  simp only [List.mem_cons, List.not_mem_nil, or_false, bne_iff_ne, ne_eq]
  omega
theorem mark_iff (r : Int) : ofB marks_ r = true ↔ isBlank r = true ∨ isNum r = true := by
  rw [isBlank_iff, isNum_iff]
  unfold ofB
  rw [Bool.and_eq_true, hasB_iff, marks_runes]
  simp only [List.mem_cons, List.not_mem_nil, or_false, bne_iff_ne, ne_eq]
  omega
structure Good (e : S33) : Prop where
  valid : Lib.validRune e.f0 = true
  ne : e.f0 ≠ 65533
  blank : ¬ isBlank e.f0 = true
  num : ¬ isNum e.f0 = true
  ok : e.f2 = true
  args : okArgs e.f1
theorem good_of (e : S33) (hb : badE e = false) (ha : okArgs e.f1) : Good e := by
  unfold badE at hb
  simp only [Bool.or_eq_false_iff, Bool.not_eq_false'] at hb
  obtain ⟨h1, h2, h3, h4⟩ := hb
  have hm : ¬ (isBlank e.f0 = true ∨ isNum e.f0 = true) := fun h => by
    rw [(mark_iff _).2 h] at h2
    cases h2
  exact ⟨h3, by simpa using h4, fun h => hm (.inl h), fun h => hm (.inr h), h1, ha⟩
theorem bad_of_good (e : S33) (h : Good e) : badE e = false := by
  unfold badE
  have h2 : ofB marks_ e.f0 = false := by
    cases hm : ofB marks_ e.f0 with
    | false => rfl
    | true =>
      rcases (mark_iff _).1 hm with h1 | h1
      · exact absurd h1 h.blank
      · exact absurd h1 h.num
  rw [h.ok, h2, h.valid, show (e.f0 == 65533) = false from beq_eq_false_iff_ne.2 h.ne]
  rfl

/-! ### the numbers' text -/
def argRunes (e : S33) : List Int := (argsFrom false e.f1).map (fun c => (c.toNat : Int))
theorem argsFrom_num : ∀ (sep : Bool) (xs : List Int), ∀ c ∈ argsFrom sep xs, (48 ≤ c.toNat ∧ c.toNat ≤ 57) ∨ c.toNat = 44
  | _, [], c, h => by cases h
  | sep, x :: r, c, h => by
    rw [argsFrom] at h
    rcases List.mem_append.1 h with h1 | h1
    · split at h1
      · rw [List.mem_singleton.1 h1]
        exact .inr rfl
      · cases h1
    · rcases List.mem_append.1 h1 with h2 | h2
      · exact .inl (decDigits_dig _ c h2)
      · exact argsFrom_num true r c h2
theorem num_fold (es : List S33) : ∀ (bs : List UInt8) (txt : List Int) (pos : Nat) (t : List UInt8), (∀ c ∈ bs, (48 ≤ c.toNat ∧ c.toNat ≤ 57) ∨ c.toNat = 44) →
    (rl pos (bs ++ t)).foldl stepP ⟨es, txt, true⟩ = (rl (pos + bs.length) t).foldl stepP ⟨es, txt ++ bs.map (fun c => (c.toNat : Int)), true⟩
  | [], txt, pos, t, _ => by simp
  | c :: bs, txt, pos, t, h => by
    have hc := h c (List.mem_cons_self ..)
    have hb : ¬ isBlank (c.toNat : Int) = true := fun e => by
      have := (isBlank_iff _).1 e
      omega
    rw [List.cons_append, rl_cons_ascii _ _ _ (by omega), List.foldl_cons, stepP_num hb ((isNum_iff _).2 (by omega)), num_fold es bs _ _ t (fun x hx => h x (List.mem_cons_of_mem _ hx))]
    rw [List.length_cons, List.map_cons, List.append_assoc, List.singleton_append, show pos + 1 + bs.length = pos + (bs.length + 1) by omega]

theorem runesBytes_snoc (xs : List Int) (x : Int) : runesBytes (xs ++ [x]) = runesBytes xs ++ Utf8.encode x := by
  unfold runesBytes
  rw [List.foldl_append]
  rfl
theorem encode_ascii (c : UInt8) (h : c.toNat < 128) : Utf8.encode (c.toNat : Int) = ⟨#[c]⟩ := by
  unfold Utf8.encode
  have hv : Utf8.valid (c.toNat : Int) = true := by
    unfold Utf8.valid
    simp
    omega
  simp only [hv, if_true, Int.toNat_natCast]
  rw [if_pos h]
  simp
theorem runesBytes_ascii (bs : List UInt8) (h : ∀ c ∈ bs, c.toNat < 128) : (runesBytes (bs.map (fun c => (c.toNat : Int)))).data.toList = bs := by
  suffices H : ∀ (bs pre_ : List UInt8) (r : ByteArray), (∀ c ∈ bs, c.toNat < 128) → r.data.toList = pre_ → ((bs.map (fun c => (c.toNat : Int))).foldl (fun r n => r ++ Utf8.encode n) r).data.toList = pre_ ++ bs by
    exact H bs [] _ h rfl
  intro bs
  induction bs with
  | nil => intro p r _ hr; simpa using hr
  | cons c bs ih =>
    intro p r h hr
    rw [List.map_cons, List.foldl_cons, ih (p ++ [c]) _ (fun x hx => h x (List.mem_cons_of_mem _ hx)) (by rw [encode_ascii c (h c (List.mem_cons_self ..))]; simp [hr])]
    simp

/-! ### an entry -/
def putAt (e : S33) (pos : Nat) : S33 := ⟨e.f0, e.f1, true, (pos : Int)⟩
theorem shut_new (e : S33) (h : Good e) (pos : Nat) : shutE (newE e.f0 pos) (argRunes e) = putAt e pos := by
  unfold shutE
  rw [if_neg (show ¬ isNum (newE e.f0 pos).f0 = true from h.num)]
  have hb : (runesBytes (argRunes e)).data.toList = argsFrom false e.f1 := runesBytes_ascii _ (fun c hc => by have := argsFrom_num _ _ c hc; omega)
  rw [numsOf_L, hb, numsOfL_args _ h.args]
  rfl
theorem endP_entry (e : S33) (h : Good e) (E : List S33) (pos : Nat) : endP ⟨E ++ [newE e.f0 pos], argRunes e, true⟩ = E ++ [putAt e pos] := by
  have := closeF_pre E [newE e.f0 pos] (argRunes e) true (fun _ => by simp)
  unfold endP
  rw [this]
  congr 1
  unfold closeF
  rw [if_pos rfl]
  show [shutE (newE e.f0 pos) (argRunes e)] = _
  rw [shut_new e h]
theorem fold_entry_st (e : S33) (h : Good e) (st : PSt) (pos : Nat) (t : List UInt8) : (rl pos (entryBytes e ++ t)).foldl stepP st = (rl (pos + (entryBytes e).length) t).foldl stepP ⟨endP st ++ [newE e.f0 pos], argRunes e, true⟩ := by
  unfold entryBytes
  have hr : 0 ≤ e.f0 := by have := h.valid; simp [Lib.validRune] at this; omega
  have hd := decodeL_encode e.f0 h.valid (argsFrom false e.f1 ++ t)
  have hne : encodeRune e.f0 ++ (argsFrom false e.f1 ++ t) ≠ [] := by simp [encodeRune_ne]
  rw [List.append_assoc, rl_step _ _ hne, hd, List.foldl_cons]
  simp only [List.drop_left]
  rw [show ((e.f0.toNat : Nat) : Int) = e.f0 by omega]
  obtain ⟨es, txt, opn⟩ := st
  rw [stepP_new h.blank (fun hh => h.num hh.2), num_fold _ _ _ _ _ (argsFrom_num _ _)]
  rw [List.length_append, List.nil_append, Nat.add_assoc]
  rfl
theorem fold_entry (e : S33) (h : Good e) (st : PSt) (ho : okS st) (pos : Nat) (t : List UInt8) :
    ∃ st', okS st' ∧ endP st' = endP st ++ [putAt e pos] ∧ (rl pos (entryBytes e ++ t)).foldl stepP st = (rl (pos + (entryBytes e).length) t).foldl stepP st' :=
  ⟨⟨endP st ++ [newE e.f0 pos], argRunes e, true⟩, fun _ => (by simp), endP_entry e h _ _, fold_entry_st e h st pos t⟩
theorem fold_blank (c : UInt8) (h1 : c.toNat < 128) (h2 : isBlank (c.toNat : Int) = true) (st : PSt) (ho : okS st) (pos : Nat) (t : List UInt8) :
    ∃ st', okS st' ∧ endP st' = endP st ∧ (rl pos (c :: t)).foldl stepP st = (rl (pos + 1) t).foldl stepP st' := by
  refine ⟨pre (endP st) st0, (fun h => by cases h), by rw [endP_pre _ _ okS0]; simp [endP, st0, closeF], ?_⟩
  rw [rl_cons_ascii _ _ _ h1, List.foldl_cons, blank_fold _ _ h2]

/-! ### entries -/
def placed : Nat → List S33 → List S33
  | _, [] => []
  | pos, e :: l => putAt e pos :: placed (pos + (entryBytes e).length) l
theorem fold_put : ∀ (l : List S33), (∀ e ∈ l, Good e) → ∀ (st : PSt), okS st → ∀ (pos : Nat), endP ((rl pos (putBytes l)).foldl stepP st) = endP st ++ placed pos l
  | [], _, st, ho, pos => by simp [putBytes, rl_nil, placed]
  | e :: l, h, st, ho, pos => by
    obtain ⟨st', o', e', f'⟩ := fold_entry e (h e (List.mem_cons_self ..)) st ho pos (putBytes l)
    have : putBytes (e :: l) = entryBytes e ++ putBytes l := by simp [putBytes]
    rw [this, f', fold_put l (fun x hx => h x (List.mem_cons_of_mem _ hx)) st' o', e', List.append_assoc]
    rfl
theorem parse_put (l : List S33) (h : ∀ e ∈ l, Good e) : parseL (putBytes l) = placed 0 l := by
  unfold parseL
  rw [fold_put l h _ okS0]
  rfl
theorem sum_le_mul (l : List Nat) (c : Nat) (h : ∀ x ∈ l, x ≤ c) : l.sum ≤ c * l.length := by
  induction l with
  | nil => simp
  | cons x r ih =>
    have := ih (fun y hy => h y (List.mem_cons_of_mem _ hy))
    have h1 := h x (List.mem_cons_self ..)
    rw [List.sum_cons, List.length_cons, Nat.mul_succ]
    omega
theorem putBytes_app (a b : List S33) : putBytes (a ++ b) = putBytes a ++ putBytes b := by simp [putBytes]
theorem map_getD (l : List S33) (i : Nat) (hi : i < l.length) : (l.map cvE).getD i z29 = cvE (l.getD i z33) := by
  simp [List.getD, List.getElem?_map, List.getElem?_eq_getElem hi]
end Go.Proofs.YtcldjdngfmakbaaDoor.G

namespace Go.Proofs.YtcldjdngfmakbaaDoor.G
open Go.RowKit Go.Proofs.YtcldjdngfmakbaaDoor Go.Proofs.YtcldjdngfmakbaaDoorW.PrintWords Go.Lib
set_option linter.unusedVariables false
set_option linter.unusedSimpArgs false

theorem bt_getD (s : ByteArray) (i : Nat) : bt s (i : Int) = ((s.data.toList.getD i 0).toNat : Int) := by
  unfold bt
  simp only [Int.toNat_natCast]
  split
  · rename_i h
    rw [getD_get!']
    congr 2
    show s[i] = s.get! i
    cases s with
    | mk d =>
      show d[i] = d[i]!
      rw [getElem!_pos d i h]
  · rename_i h
    rw [List.getD_eq_getElem?_getD, List.getElem?_eq_none (by simp; omega)]
    rfl

/-- One test of the reference, in numbers. -/
theorem next_eq (s : ByteArray) (i : Nat) (x y : Int) : hatstandref3_next.f s (i : Int) x y = some (decide (i < s.size ∧ x ≤ bt s (i : Int) ∧ bt s (i : Int) ≤ y)) := by
  unfold hatstandref3_next.f
  by_cases h : (i : Int) < (s.size : Int)
  · rw [if_pos h, if_pos (by omega)]
    by_cases h1 : bt s (i : Int) ≥ x
    · rw [if_pos h1]
      congr 1
      rw [decide_eq_decide]
      omega
    · rw [if_neg h1, decide_eq_false (by omega)]
  · rw [if_neg h, decide_eq_false (by omega)]

def runeN (n b0 b1 b2 b3 : Nat) : Int × Int :=
  if b0 < 128 then ((b0 : Int), 1)
  else if 194 ≤ b0 ∧ b0 ≤ 223 ∧ 1 < n ∧ 128 ≤ b1 ∧ b1 ≤ 191 then (((b0 : Int) - 192) % 256 * 64 + ((b1 : Int) - 128) % 256, 2)
  else if 224 ≤ b0 ∧ b0 ≤ 239 then
    (if (1 < n ∧ (if b0 = 224 then 160 else 128) ≤ b1 ∧ b1 ≤ (if b0 = 237 then 159 else 191)) ∧ (2 < n ∧ 128 ≤ b2 ∧ b2 ≤ 191)
      then (((b0 : Int) - 224) % 256 * 4096 + ((b1 : Int) - 128) % 256 * 64 + ((b2 : Int) - 128) % 256, 3) else (65533, 1))
  else if 240 ≤ b0 ∧ b0 ≤ 244 then
    (if (1 < n ∧ (if b0 = 240 then 144 else 128) ≤ b1 ∧ b1 ≤ (if b0 = 244 then 143 else 191)) ∧ (2 < n ∧ 128 ≤ b2 ∧ b2 ≤ 191) ∧ (3 < n ∧ 128 ≤ b3 ∧ b3 ≤ 191)
      then (((b0 : Int) - 240) % 256 * 262144 + ((b1 : Int) - 128) % 256 * 4096 + ((b2 : Int) - 128) % 256 * 64 + ((b3 : Int) - 128) % 256, 4) else (65533, 1))
  else (65533, 1)

set_option maxHeartbeats 4000000 in
theorem runeN_eq (n b0 b1 b2 b3 : Nat) (h0 : b0 < 256) (h1 : b1 < 256) (h2 : b2 < 256) (h3 : b3 < 256) : runeN n b0 b1 b2 b3 = (((decodeN n b0 b1 b2 b3).1 : Int), ((decodeN n b0 b1 b2 b3).2 : Int)) := by
  obtain ⟨p, hp⟩ : ∃ p, decodeN n b0 b1 b2 b3 = p := ⟨_, rfl⟩
  rw [hp]
  unfold decodeN at hp
  by_cases c0 : b0 < 128
  · rw [if_pos c0] at hp
    subst hp
    unfold runeN
    rw [if_pos c0]
    rfl
  rw [if_neg c0] at hp
  unfold runeN
  rw [if_neg c0]
  by_cases c1 : b0 / 32 = 6
  · rw [if_neg (show ¬ (b0 / 16 = 14 ∧ (1 < n ∧ b1 / 64 = 2) ∧ (2 < n ∧ b2 / 64 = 2)) by omega), if_neg (show ¬ (b0 / 8 = 30 ∧ (1 < n ∧ b1 / 64 = 2) ∧ (2 < n ∧ b2 / 64 = 2) ∧ (3 < n ∧ b3 / 64 = 2)) by omega)] at hp
    rw [if_neg (show ¬ (224 ≤ b0 ∧ b0 ≤ 239) by omega), if_neg (show ¬ (240 ≤ b0 ∧ b0 ≤ 244) by omega)]
    split at hp
    · split at hp
      · subst hp
        rw [if_pos (by omega)]
        simp only [Prod.mk.injEq]
        omega
      · subst hp
        rw [if_neg (by omega)]
        rfl
    · subst hp
      rw [if_neg (by omega)]
      rfl
  rw [if_neg (show ¬ (b0 / 32 = 6 ∧ 1 < n ∧ b1 / 64 = 2) by omega)] at hp
  rw [if_neg (show ¬ (194 ≤ b0 ∧ b0 ≤ 223 ∧ 1 < n ∧ 128 ≤ b1 ∧ b1 ≤ 191) by omega)]
  by_cases c2 : b0 / 16 = 14
  · rw [if_neg (show ¬ (b0 / 8 = 30 ∧ (1 < n ∧ b1 / 64 = 2) ∧ (2 < n ∧ b2 / 64 = 2) ∧ (3 < n ∧ b3 / 64 = 2)) by omega)] at hp
    rw [if_pos (show 224 ≤ b0 ∧ b0 ≤ 239 by omega)]
    obtain ⟨lo, hlo⟩ : ∃ lo, lo = (if b0 = 224 then 160 else 128) := ⟨_, rfl⟩
    obtain ⟨hi, hhi⟩ : ∃ hi, hi = (if b0 = 237 then 159 else 191) := ⟨_, rfl⟩
    rw [← hlo, ← hhi]
    have l1 : (b0 = 224 ∧ lo = 160) ∨ (b0 ≠ 224 ∧ lo = 128) := by split at hlo <;> omega
    have l2 : (b0 = 237 ∧ hi = 159) ∨ (b0 ≠ 237 ∧ hi = 191) := by split at hhi <;> omega
    clear hlo hhi
    split at hp
    · split at hp
      · subst hp
        rw [if_pos (by omega)]
        simp only [Prod.mk.injEq]
        omega
      · subst hp
        rw [if_neg (by omega)]
        rfl
    · subst hp
      rw [if_neg (by omega)]
      rfl
  rw [if_neg (show ¬ (b0 / 16 = 14 ∧ (1 < n ∧ b1 / 64 = 2) ∧ (2 < n ∧ b2 / 64 = 2)) by omega)] at hp
  rw [if_neg (show ¬ (224 ≤ b0 ∧ b0 ≤ 239) by omega)]
  by_cases c4 : 240 ≤ b0 ∧ b0 ≤ 244
  · rw [if_pos c4]
    obtain ⟨lo, hlo⟩ : ∃ lo, lo = (if b0 = 240 then 144 else 128) := ⟨_, rfl⟩
    obtain ⟨hi, hhi⟩ : ∃ hi, hi = (if b0 = 244 then 143 else 191) := ⟨_, rfl⟩
    rw [← hlo, ← hhi]
    have l1 : (b0 = 240 ∧ lo = 144) ∨ (b0 ≠ 240 ∧ lo = 128) := by split at hlo <;> omega
    have l2 : (b0 = 244 ∧ hi = 143) ∨ (b0 ≠ 244 ∧ hi = 191) := by split at hhi <;> omega
    clear hlo hhi
    split at hp
    · split at hp
      · subst hp
        rw [if_pos (by omega)]
        simp only [Prod.mk.injEq]
        omega
      · subst hp
        rw [if_neg (by omega)]
        rfl
    · subst hp
      rw [if_neg (by omega)]
      rfl
  · rw [if_neg c4]
    split at hp
    · split at hp
      · exfalso
        omega
      · subst hp
        rfl
    · subst hp
      rfl

set_option maxHeartbeats 4000000 in
theorem rune_N (s : ByteArray) (x0 x1 x2 x3 : Nat) (hs : 0 < s.size) (e0 : bt s 0 = (x0 : Int)) (e1 : bt s 1 = (x1 : Int)) (e2 : bt s 2 = (x2 : Int)) (e3 : bt s 3 = (x3 : Int)) (l0 : x0 < 256) :
    Ev (fun k => hatstandref3_Rune.f k s) (runeN s.size x0 x1 x2 x3) := by
  have n1 : ∀ x y, hatstandref3_next.f s 1 x y = some (decide (1 < s.size ∧ x ≤ (x1 : Int) ∧ (x1 : Int) ≤ y)) := fun x y => by rw [← e1]; exact next_eq s 1 x y
  have n2 : ∀ x y, hatstandref3_next.f s 2 x y = some (decide (2 < s.size ∧ x ≤ (x2 : Int) ∧ (x2 : Int) ≤ y)) := fun x y => by rw [← e2]; exact next_eq s 2 x y
  have n3 : ∀ x y, hatstandref3_next.f s 3 x y = some (decide (3 < s.size ∧ x ≤ (x3 : Int) ∧ (x3 : Int) ≤ y)) := fun x y => by rw [← e3]; exact next_eq s 3 x y
  refine ⟨8, fun k hk => ?_⟩
  obtain ⟨m, rfl⟩ : ∃ m, k = m + 8 := ⟨k - 8, by omega⟩
  have z0 : (0 : Int) < (s.size : Int) := by omega
  -- four bytes
  have h6 : ∀ (j : Nat) (lo hi : Int), hatstandref3_Rune.j6 (j + 1) s (x0 : Int) lo hi = some (if (1 < s.size ∧ lo ≤ (x1 : Int) ∧ (x1 : Int) ≤ hi) ∧ (2 < s.size ∧ 128 ≤ x2 ∧ x2 ≤ 191) ∧ (3 < s.size ∧ 128 ≤ x3 ∧ x3 ≤ 191)
      then (((x0 : Int) - 240) % 256 * 262144 + ((x1 : Int) - 128) % 256 * 4096 + ((x2 : Int) - 128) % 256 * 64 + ((x3 : Int) - 128) % 256, 4) else (65533, 1)) := by
    intro j lo hi
    rw [hatstandref3_Rune.j6, n1, n2, n3, e1, e2, e3]
    simp only [Option.bind_some, decide_eq_true_eq]
    by_cases c1 : 1 < s.size ∧ lo ≤ (x1 : Int) ∧ (x1 : Int) ≤ hi
    · by_cases c2 : 2 < s.size ∧ 128 ≤ x2 ∧ x2 ≤ 191
      · by_cases c3 : 3 < s.size ∧ 128 ≤ x3 ∧ x3 ≤ 191
        · rw [if_pos c1, if_pos (by omega), if_pos (by omega), if_pos (by omega), if_pos (by omega), if_pos (by omega), if_pos ⟨c1, c2, c3⟩]
        · rw [if_pos c1, if_pos (by omega), if_neg (by omega), if_neg (fun h => c3 h.2.2)]
      · rw [if_pos c1, if_neg (by omega), if_neg (fun h => c2 h.2.1)]
    · rw [if_neg c1, if_neg (fun h => c1 h.1)]
  have h3 : ∀ (j : Nat) (lo hi : Int), hatstandref3_Rune.j3 (j + 1) s (x0 : Int) lo hi = some (if (1 < s.size ∧ lo ≤ (x1 : Int) ∧ (x1 : Int) ≤ hi) ∧ (2 < s.size ∧ 128 ≤ x2 ∧ x2 ≤ 191)
      then (((x0 : Int) - 224) % 256 * 4096 + ((x1 : Int) - 128) % 256 * 64 + ((x2 : Int) - 128) % 256, 3) else (65533, 1)) := by
    intro j lo hi
    rw [hatstandref3_Rune.j3, n1, n2, e1, e2]
    simp only [Option.bind_some, decide_eq_true_eq]
    by_cases c1 : 1 < s.size ∧ lo ≤ (x1 : Int) ∧ (x1 : Int) ≤ hi
    · by_cases c2 : 2 < s.size ∧ 128 ≤ x2 ∧ x2 ≤ 191
      · rw [if_pos c1, if_pos (by omega), if_pos (by omega), if_pos (by omega), if_pos ⟨c1, c2⟩]
      · rw [if_pos c1, if_neg (by omega), if_neg (fun h => c2 h.2)]
    · rw [if_neg c1, if_neg (fun h => c1 h.1)]
  show hatstandref3_Rune.f (m + 8) s = _
  unfold runeN hatstandref3_Rune.f
  rw [if_pos z0, e0]
  by_cases c0 : x0 < 128
  · rw [if_pos (by omega), if_pos c0, wrap64_in _ (by omega)]
  rw [if_neg (by omega), if_neg c0]
  by_cases c1 : 194 ≤ x0 ∧ x0 ≤ 223
  · rw [if_pos (by omega), if_pos (by omega), n1]
    simp only [Option.bind_some]
    by_cases d1 : 1 < s.size ∧ 128 ≤ x1 ∧ x1 ≤ 191
    · rw [decide_eq_true (by omega), hatstandref3_Rune.j0, if_pos rfl, if_pos (by omega), if_pos (by omega), e1]
    · rw [decide_eq_false (by omega), hatstandref3_Rune.j0, if_neg (by simp), if_neg (by omega), hatstandref3_Rune.j1, if_neg (by simp), if_neg (by omega), hatstandref3_Rune.j4, if_neg (by simp), if_neg (by omega), if_neg (by omega), if_neg (by omega)]
  have hj : (if (x0 : Int) ≥ 194 then (if (x0 : Int) ≤ 223 then ((hatstandref3_next.f s 1 128 191).bind fun t211 => (hatstandref3_Rune.j0 (m + 8) s (x0 : Int) t211)) else (hatstandref3_Rune.j0 (m + 8) s (x0 : Int) false)) else (hatstandref3_Rune.j0 (m + 8) s (x0 : Int) false)) = hatstandref3_Rune.j0 (m + 8) s (x0 : Int) false := by
    by_cases c : (x0 : Int) ≥ 194
    · rw [if_pos c, if_neg (by omega)]
    · rw [if_neg c]
  rw [hj, if_neg (show ¬ (194 ≤ x0 ∧ x0 ≤ 223 ∧ 1 < s.size ∧ 128 ≤ x1 ∧ x1 ≤ 191) by omega), hatstandref3_Rune.j0, if_neg (by simp)]
  by_cases c2 : 224 ≤ x0 ∧ x0 ≤ 239
  · rw [if_pos (by omega), if_pos c2, decide_eq_true (by omega), hatstandref3_Rune.j1, if_pos rfl]
    by_cases a1 : x0 = 224
    · rw [if_pos (by omega), hatstandref3_Rune.j2, if_neg (by omega), h3, if_pos a1, if_neg (show ¬ x0 = 237 by omega)]
      congr 2
      apply propext
      omega
    · rw [if_neg (by omega), hatstandref3_Rune.j2, if_neg a1]
      by_cases a2 : x0 = 237
      · rw [if_pos (by omega), h3, if_pos a2]
        congr 2
        apply propext
        omega
      · rw [if_neg (by omega), h3, if_neg a2]
        congr 2
        apply propext
        omega
  rw [if_neg c2]
  have hj1 : (if (x0 : Int) ≥ 224 then (hatstandref3_Rune.j1 (m + 7) s (x0 : Int) (decide ((x0 : Int) ≤ 239))) else (hatstandref3_Rune.j1 (m + 7) s (x0 : Int) false)) = hatstandref3_Rune.j1 (m + 7) s (x0 : Int) false := by
    by_cases c : (x0 : Int) ≥ 224
    · rw [if_pos c, decide_eq_false (by omega)]
    · rw [if_neg c]
  rw [hj1, hatstandref3_Rune.j1, if_neg (by simp)]
  by_cases c3 : 240 ≤ x0 ∧ x0 ≤ 244
  · rw [if_pos (by omega), if_pos c3, decide_eq_true (by omega), hatstandref3_Rune.j4, if_pos rfl]
    by_cases a1 : x0 = 240
    · rw [if_pos (by omega), hatstandref3_Rune.j5, if_neg (by omega), h6, if_pos a1, if_neg (show ¬ x0 = 244 by omega)]
      congr 2
      apply propext
      omega
    · rw [if_neg (by omega), hatstandref3_Rune.j5, if_neg a1]
      by_cases a2 : x0 = 244
      · rw [if_pos (by omega), h6, if_pos a2]
        congr 2
        apply propext
        omega
      · rw [if_neg (by omega), h6, if_neg a2]
        congr 2
        apply propext
        omega
  · rw [if_neg c3]
    by_cases c : (x0 : Int) ≥ 240
    · rw [if_pos c, decide_eq_false (by omega), hatstandref3_Rune.j4, if_neg (by simp)]
    · rw [if_neg c, hatstandref3_Rune.j4, if_neg (by simp)]

/-- The reference's rune is the library's. -/
theorem rune_ev (s : ByteArray) (hs : 0 < s.size) : Ev (fun k => hatstandref3_Rune.f k s) (((decodeL s.data.toList).1 : Int), ((decodeL s.data.toList).2 : Int)) := by
  have h := rune_N s _ _ _ _ hs (bt_getD s 0) (bt_getD s 1) (bt_getD s 2) (bt_getD s 3) (UInt8.toNat_lt _)
  rw [runeN_eq _ _ _ _ _ (UInt8.toNat_lt _) (UInt8.toNat_lt _) (UInt8.toNat_lt _) (UInt8.toNat_lt _)] at h
  rw [decodeL_N]
  have e : s.data.toList.length = s.size := by simp
  rw [e]
  exact h
end Go.Proofs.YtcldjdngfmakbaaDoor.G

namespace Go.Proofs.YtcldjdngfmakbaaDoor.G
open Go.RowKit Go.Proofs.YtcldjdngfmakbaaDoor Go.Proofs.YtcldjdngfmakbaaDoorW.PrintWords Go.Lib
set_option linter.unusedVariables false
set_option linter.unusedSimpArgs false

def maxU : Nat := 18446744073709551615
/-- What the reference's loop answers. -/
def numM (acc : Nat) (l : List UInt8) : Int × Bool := match parseUintM maxU acc l with
  | .ok u => ((u : Int), true)
  | _ => (0, false)
theorem numM_nil (acc : Nat) : numM acc [] = ((acc : Int), true) := rfl
theorem numM_no (acc : Nat) (c : UInt8) (r : List UInt8) (h : ¬ (48 ≤ c.toNat ∧ c.toNat ≤ 57) ∨ 18446744073709551615 < acc * 10 + (c.toNat - 48)) : numM acc (c :: r) = (0, false) := by
  unfold numM
  rw [parseUintM]
  by_cases hd : 48 ≤ c.toNat ∧ c.toNat ≤ 57
  · rw [if_pos hd]
    split
    · rename_i u hu
      split at hu
      · cases hu
      · rw [if_pos (show maxU < acc * 10 + (c.toNat - 48) by unfold maxU; omega)] at hu
        cases hu
    · rfl
  · rw [if_neg hd]
theorem numM_dig (acc : Nat) (c : UInt8) (r : List UInt8) (hd : 48 ≤ c.toNat ∧ c.toNat ≤ 57) (hv : acc * 10 + (c.toNat - 48) ≤ 18446744073709551615) : numM acc (c :: r) = numM (acc * 10 + (c.toNat - 48)) r := by
  unfold numM
  rw [parseUintM, if_pos hd, if_neg (by omega), if_neg (by unfold maxU; omega)]

theorem number_loop (s : ByteArray) (hs : s.size ≤ 1000000) : ∀ (m i acc : Nat), i + m = s.size → acc ≤ 18446744073709551615 → Ev (fun k => hatstandref3_number.l0 k s (acc : Int) (i : Int)) (numM acc (s.data.toList.drop i))
  | 0, i, acc, hi, ha => by
    have e : s.data.toList.drop i = [] := List.drop_eq_nil_of_le (by simp; omega)
    rw [e, numM_nil]
    refine Ev.step (fun k => ?_) (Ev.now _)
    rw [hatstandref3_number.l0, if_neg (by omega)]
  | m + 1, i, acc, hi, ha => by
    have hl : s.data.toList.length = s.size := by simp
    have hlt : i < s.data.toList.length := by omega
    have hb := bt_getD s i
    rw [List.getD_eq_getElem?_getD, List.getElem?_eq_getElem hlt, Option.getD_some] at hb
    rw [List.drop_eq_getElem_cons hlt]
    obtain ⟨c, hc⟩ : ∃ c, s.data.toList[i] = c := ⟨_, rfl⟩
    rw [hc] at hb ⊢
    have hc256 := UInt8.toNat_lt c
    by_cases hd : 48 ≤ c.toNat ∧ c.toNat ≤ 57
    · by_cases hv : acc * 10 + (c.toNat - 48) ≤ 18446744073709551615
      · rw [numM_dig acc c _ hd hv]
        refine Ev.step (fun k => ?_) (number_loop s hs m (i + 1) _ (by omega) hv)
        have e1 : IntKind.u64.wrap (IntKind.u64.wrap (10 * (acc : Int)) + ((c.toNat : Int) - 48) % 256) = ((acc * 10 + (c.toNat - 48) : Nat) : Int) := by
          have w1 : ∀ z : Int, IntKind.u64.wrap z = z % 18446744073709551616 := fun z => by simp [IntKind.wrap, IntKind.bits, IntKind.signed]
          rw [w1, w1]
          omega
        rw [hatstandref3_number.l0, hb, if_pos (by omega), if_pos (by omega), if_neg (by omega), if_neg (by omega), if_neg (by omega), e1, wrap64_in ((i : Int) + 1) (by omega)]
        by_cases he : (acc : Int) = 1844674407370955161
        · rw [if_pos he, if_neg (by omega)]
          rfl
        · rw [if_neg he]
          rfl
      · rw [numM_no acc c _ (.inr (by omega))]
        refine Ev.step (fun k => ?_) (Ev.now _)
        rw [hatstandref3_number.l0, hb, if_pos (by omega), if_pos (by omega), if_neg (by omega), if_neg (by omega)]
        by_cases hg : (acc : Int) > 1844674407370955161
        · rw [if_pos hg]
        · rw [if_neg hg, if_pos (by omega), if_pos (by omega)]
    · rw [numM_no acc c _ (.inl hd)]
      refine Ev.step (fun k => ?_) (Ev.now _)
      rw [hatstandref3_number.l0, hb, if_pos (by omega), if_pos (by omega)]
      by_cases h1 : (c.toNat : Int) < 48
      · rw [if_pos h1]
      · rw [if_neg h1, if_pos (by omega)]

/-! ### numerals without a zero ahead -/
theorem decDigits_head (u : Nat) : 10 ≤ u → ∃ c r, decDigits u = c :: r ∧ c.toNat ≠ 48 ∧ r ≠ [] := by
  intro h
  rw [decDigits, dif_neg (by omega)]
  by_cases h2 : u / 10 < 10
  · refine ⟨UInt8.ofNat (48 + u / 10), [UInt8.ofNat (48 + u % 10)], ?_, ?_, by simp⟩
    · rw [decDigits, dif_pos h2]
      rfl
    · rw [dig_toNat _ h2]
      omega
  · obtain ⟨c, r, e, hc, hr⟩ := decDigits_head (u / 10) (by omega)
    exact ⟨c, r ++ [UInt8.ofNat (48 + u % 10)], by rw [e]; rfl, hc, by simp⟩
termination_by u
decreasing_by omega

theorem parseM_snoc_inv (M : Nat) (c : UInt8) : ∀ (l : List UInt8) (acc u : Nat), parseUintM M acc (l ++ [c]) = .ok u → ∃ v, parseUintM M acc l = .ok v ∧ 48 ≤ c.toNat ∧ c.toNat ≤ 57 ∧ u = v * 10 + (c.toNat - 48)
  | [], acc, u, h => by
    rw [List.nil_append, parseUintM] at h
    split at h
    · rename_i hd
      split at h
      · cases h
      · split at h
        · cases h
        · rw [parseUintM] at h
          cases h
          exact ⟨acc, by rw [parseUintM], hd.1, hd.2, rfl⟩
    · cases h
  | x :: l, acc, u, h => by
    rw [List.cons_append, parseUintM] at h
    split at h
    · rename_i hd
      split at h
      · cases h
      · rename_i h1
        split at h
        · cases h
        · rename_i h2
          obtain ⟨v, e, rest⟩ := parseM_snoc_inv M c l _ u h
          exact ⟨v, by rw [parseUintM, if_pos hd, if_neg h1, if_neg h2, e], rest⟩
    · cases h

theorem dig_back (c : UInt8) (h : 48 ≤ c.toNat ∧ c.toNat ≤ 57) : UInt8.ofNat (48 + (c.toNat - 48)) = c := by
  rw [show 48 + (c.toNat - 48) = c.toNat by omega]
  simp
/-- A numeral without a zero ahead is the one that is written for its number. -/
theorem numeral_eq (M : Nat) : ∀ (n : Nat) (l : List UInt8) (u : Nat), l.length = n → l ≠ [] → parseUintM M 0 l = .ok u → ¬ (1 < l.length ∧ (l.getD 0 0).toNat = 48) → decDigits u = l ∧ (1 < l.length → 1 ≤ u / 10)
  | 0, l, u, hn, hne, _, _ => absurd (List.length_eq_zero_iff.1 hn) hne
  | n + 1, l, u, hn, hne, h, hz => by
    obtain ⟨l', c, rfl⟩ : ∃ l' c, l = l' ++ [c] := ⟨l.dropLast, l.getLast hne, (List.dropLast_concat_getLast hne).symm⟩
    obtain ⟨v, hv, d1, d2, rfl⟩ := parseM_snoc_inv M c l' 0 u h
    have hn' : l'.length = n := by rw [List.length_append, List.length_singleton] at hn; omega
    by_cases he : l' = []
    · subst he
      rw [parseUintM] at hv
      cases hv
      refine ⟨?_, fun hl => by simp at hl⟩
      rw [decDigits, dif_pos (by omega), Nat.zero_mul, Nat.zero_add, dig_back c ⟨d1, d2⟩]
      rfl
    · have hp := List.length_pos_iff.2 he
      have hz' : (l'.getD 0 0).toNat ≠ 48 := fun e => hz ⟨by rw [List.length_append, List.length_singleton]; omega, by
        rw [List.getD_eq_getElem?_getD, List.getElem?_append_left hp, ← List.getD_eq_getElem?_getD]
        exact e⟩
      obtain ⟨e1, e2⟩ := numeral_eq M n l' v hn' he hv (fun h => hz' h.2)
      have hv1 : 1 ≤ v := by
        by_cases hl : 1 < l'.length
        · have := e2 hl
          omega
        · obtain ⟨x, rfl⟩ : ∃ x, l' = [x] := List.length_eq_one_iff.1 (by omega)
          rw [parseUintM] at hv
          split at hv
          · rename_i hx
            split at hv
            · cases hv
            · split at hv
              · cases hv
              · rw [parseUintM] at hv
                cases hv
                have : x.toNat ≠ 48 := hz'
                omega
          · cases hv
      refine ⟨?_, fun _ => by omega⟩
      rw [decDigits, dif_neg (by omega), show (v * 10 + (c.toNat - 48)) / 10 = v by omega, e1, show (v * 10 + (c.toNat - 48)) % 10 = c.toNat - 48 by omega, dig_back c ⟨d1, d2⟩]

def numR (l : List UInt8) : Int × Bool := match numL l with
  | some u => ((u : Int), true)
  | none => (0, false)
theorem numL_eq (l : List UInt8) : numR l = if l = [] ∨ 20 < l.length ∨ (1 < l.length ∧ (l.getD 0 0).toNat = 48) then (0, false) else numM 0 l := by
  unfold numR numL numM parseUintB
  by_cases he : l = []
  · subst he
    rfl
  rw [if_neg he, show 2 ^ 64 - 1 = maxU by decide]
  cases hp : parseUintM maxU 0 l with
  | ok u =>
    have hu := parseUintM_le maxU l 0 u (Nat.zero_le _) hp
    simp only
    by_cases hz : 1 < l.length ∧ (l.getD 0 0).toNat = 48
    · have hn : ¬ decDigits u = l := by
        intro e
        by_cases h10 : 10 ≤ u
        · obtain ⟨c, r, e1, hc, _⟩ := decDigits_head u h10
          rw [← e, e1] at hz
          exact hc hz.2
        · rw [decDigits, dif_pos (by omega)] at e
          rw [← e] at hz
          simp at hz
      rw [if_neg hn, if_pos (.inr (.inr hz))]
    · obtain ⟨e1, _⟩ := numeral_eq maxU _ l u rfl he hp hz
      have hl : l.length ≤ 20 := by
        rw [← e1]
        exact decDigits_len u (by unfold maxU at hu; omega)
      have hn : ¬ (l = [] ∨ 20 < l.length ∨ (1 < l.length ∧ (l.getD 0 0).toNat = 48)) := by
        intro h
        rcases h with h | h | h
        · exact he h
        · omega
        · exact hz h
      rw [if_pos e1, if_neg hn]
  | _ =>
    simp only
    split <;> rfl

theorem number_ev (s : ByteArray) (hs : s.size ≤ 1000000) : Ev (fun k => hatstandref3_number.f k s) (numR s.data.toList) := by
  have hl : s.data.toList.length = s.size := by simp
  have hT : Ev (fun k => hatstandref3_number.j0 k s true) (0, false) := Ev.step (fun k => by rw [hatstandref3_number.j0, if_pos rfl]) (Ev.now _)
  have hF : Ev (fun k => hatstandref3_number.j0 k s false) (numM 0 s.data.toList) := by
    refine Ev.step (fun k => by rw [hatstandref3_number.j0, if_neg (by simp)]) ?_
    have := number_loop s hs s.size 0 0 (Nat.zero_add _) (Nat.zero_le _)
    rwa [List.drop_zero] at this
  rw [numL_eq]
  by_cases h0 : s.size = 0
  · have e : s.data.toList = [] := List.length_eq_zero_iff.1 (by omega)
    rw [if_pos (.inl e)]
    refine Ev.congr (fun k => ?_) hT
    unfold hatstandref3_number.f
    rw [if_pos (by omega)]
  have hne : s.data.toList ≠ [] := fun e => by rw [e, List.length_nil] at hl; omega
  by_cases h20 : 20 < s.size
  · rw [if_pos (.inr (.inl (by omega)))]
    refine Ev.congr (fun k => ?_) hT
    unfold hatstandref3_number.f
    rw [if_neg (by omega), if_pos (by omega)]
  by_cases h1 : 1 < s.size
  · have hb := bt_getD s 0
    by_cases hz : (s.data.toList.getD 0 0).toNat = 48
    · rw [if_pos (.inr (.inr ⟨by omega, hz⟩))]
      refine Ev.congr (fun k => ?_) hT
      unfold hatstandref3_number.f
      rw [if_neg (by omega), if_neg (by omega), if_pos (by omega), if_pos (by omega), show bt s 0 = _ from hb, hz]
      rfl
    · rw [if_neg (fun h => (by rcases h with h | h | h; exact hne h; omega; exact hz h.2))]
      refine Ev.congr (fun k => ?_) hF
      unfold hatstandref3_number.f
      rw [if_neg (by omega), if_neg (by omega), if_pos (by omega), if_pos (by omega), show bt s 0 = _ from hb, show (((s.data.toList.getD 0 0).toNat : Int) == 48) = false from beq_eq_false_iff_ne.2 (by omega)]
  · rw [if_neg (fun h => (by rcases h with h | h | h; exact hne h; omega; omega))]
    refine Ev.congr (fun k => ?_) hF
    unfold hatstandref3_number.f
    rw [if_neg (by omega), if_neg (by omega), if_neg (by omega)]

/-! ### rows of numbers -/
/-- What is found from a place on, with what was found before. -/
def argsR (acc : List Int) (l : List UInt8) : List Int × Bool := match numsL (splitC l) with
  | some r => (acc ++ r, true)
  | none => ([], false)

theorem argsR_part (acc : List Int) (a l : List UInt8) (ha : ∀ c ∈ a, c ≠ 44) : argsR acc (a ++ 44 :: l) = match numL a with
    | some u => argsR (acc ++ [(u : Int)]) l
    | none => ([], false) := by
  unfold argsR
  have e : splitC (a ++ 44 :: l) = a :: splitC l := by
    rw [splitC_pre a _ ha, splitC, if_pos rfl]
    simp
  rw [e, numsL]
  cases numL a with
  | none => rfl
  | some u =>
    simp only
    cases numsL (splitC l) with
    | none => rfl
    | some r => simp
theorem argsR_last (acc : List Int) (a : List UInt8) (ha : ∀ c ∈ a, c ≠ 44) : argsR acc a = match numL a with
    | some u => (acc ++ [(u : Int)], true)
    | none => ([], false) := by
  unfold argsR
  have e : splitC a = [a] := by
    have := splitC_pre a [] ha
    rw [List.append_nil] at this
    rw [this]
    simp [splitC]
  rw [e, numsL]
  cases numL a with
  | none => rfl
  | some u => rfl

theorem extract_mid (s : ByteArray) (a b : Nat) : (s.extract a b).data.toList = (s.data.toList.drop a).take (b - a) := by
  rw [extract_data]

theorem args_end (s : ByteArray) (hs : s.size ≤ 1000000) (acc : List Int) (i : Nat) (hi : i = s.size + 1) : Ev (fun k => hatstandref3_args.l0 k s acc (i : Int) (i : Int)) (acc, true) := by
  refine Ev.step (fun k => ?_) (Ev.step (f := fun k => some (acc, true)) (g := fun k => hatstandref3_args.j1 k s acc (i : Int) (i : Int) false) (fun k => by rw [hatstandref3_args.j1, if_neg (by simp)]) (Ev.now _))
  rw [hatstandref3_args.l0, if_neg (by omega)]

/-- One part is taken. -/
theorem args_take (s : ByteArray) (hs : s.size ≤ 1000000) (i from_ : Nat) (acc : List Int) (hi : i ≤ s.size) (hf : from_ ≤ i) (ha : acc.length ≤ i) (a : List UInt8) (hea : (s.data.toList.drop from_).take (i - from_) = a) {r : List Int × Bool}
    (hok : ∀ u : Nat, numL a = some u → Ev (fun k => hatstandref3_args.l0 k s (acc ++ [(u : Int)]) ((i + 1 : Nat) : Int) ((i + 1 : Nat) : Int)) r) (hno : numL a = none → r = ([], false)) :
    Ev (fun k => hatstandref3_args.j2 k s acc (from_ : Int) (i : Int) false) r := by
  have hn := number_ev (s.extract from_ i) (by rw [ByteArray.size_extract]; omega)
  rw [extract_mid, hea] at hn
  have hb : Ev (fun k => (hatstandref3_number.f k (s.extract from_ i)).bind fun bt217 => (if bt217.2 = true then (if acc.length < 17592186044416 then (hatstandref3_args.l0 k s (acc ++ [bt217.1]) (wrap64 ((i : Int) + 1)) (wrap64 ((i : Int) + 1))) else (none)) else (some (([] : List Int), false)))) r := by
    refine Ev.bind hn ?_
    unfold numR
    cases h : numL a with
    | none =>
      rw [hno h]
      exact Ev.congr (fun k => by rw [if_neg (by simp)]) (Ev.now _)
    | some u =>
      refine Ev.congr (fun k => ?_) (hok u h)
      rw [if_pos rfl, if_pos (by omega), wrap64_in _ (by omega)]
      rfl
  refine Ev.step (fun k => ?_) hb
  rw [hatstandref3_args.j2, if_neg (by simp), if_pos (by omega), if_pos (by omega), if_pos (by omega), Int.toNat_natCast, Int.toNat_natCast]

theorem args_loop (s : ByteArray) (hs : s.size ≤ 1000000) (hne : s.size ≠ 0) : ∀ (m i from_ : Nat) (acc : List Int), i + m = s.size → from_ ≤ i → acc.length ≤ i → (∀ c ∈ (s.data.toList.drop from_).take (i - from_), c ≠ 44) →
    Ev (fun k => hatstandref3_args.l0 k s acc (from_ : Int) (i : Int)) (argsR acc (s.data.toList.drop from_))
  | m, i, from_, acc, hi, hf, ha, hc => by
    have hl : s.data.toList.length = s.size := by simp
    have hx : (s.toList != ([] : List UInt8)) = true := by
      rw [toList_data]
      refine bne_iff_ne.2 fun e => ?_
      rw [e, List.length_nil] at hl
      exact hne hl.symm
    cases m with
    | zero =>
      have e : (s.data.toList.drop from_).take (i - from_) = s.data.toList.drop from_ := List.take_of_length_le (by rw [List.length_drop]; omega)
      rw [e] at hc
      have hj := args_take s hs i from_ acc (by omega) hf ha _ e (r := argsR acc (s.data.toList.drop from_)) (fun u hu => by
        rw [argsR_last acc _ hc, hu]
        exact args_end s hs _ (i + 1) (by omega)) (fun hu => by rw [argsR_last acc _ hc, hu])
      have hj1 : Ev (fun k => hatstandref3_args.j1 k s acc (from_ : Int) (i : Int) true) (argsR acc (s.data.toList.drop from_)) := Ev.step (fun k => by rw [hatstandref3_args.j1, if_pos rfl, if_neg (by omega)]) hj
      exact Ev.step (fun k => by rw [hatstandref3_args.l0, if_pos (by omega), hx]) hj1
    | succ m =>
      have hlt : i < s.data.toList.length := by omega
      have hb := bt_getD s i
      have hg : s.data.toList.getD i 0 = s.data.toList[i] := by simp [List.getD, List.getElem?_eq_getElem hlt]
      rw [hg] at hb
      have htk : (s.data.toList.drop from_).take (i + 1 - from_) = (s.data.toList.drop from_).take (i - from_) ++ [s.data.toList[i]] := by
        rw [show i + 1 - from_ = (i - from_) + 1 by omega, List.take_add_one, List.getElem?_drop, show from_ + (i - from_) = i by omega, List.getElem?_eq_getElem hlt]
        rfl
      by_cases h44 : s.data.toList[i] = 44
      · have hsp : s.data.toList.drop from_ = (s.data.toList.drop from_).take (i - from_) ++ 44 :: s.data.toList.drop (i + 1) := by
          conv => lhs; rw [← List.take_append_drop (i - from_) (s.data.toList.drop from_)]
          rw [List.drop_drop, show from_ + (i - from_) = i by omega, List.drop_eq_getElem_cons hlt, h44]
        have hj := args_take s hs i from_ acc (by omega) hf ha _ rfl (r := argsR acc (s.data.toList.drop from_)) (fun u hu => by
          rw [hsp, argsR_part acc _ _ hc, hu]
          exact args_loop s hs hne m (i + 1) (i + 1) _ (by omega) (Nat.le_refl _) (by rw [List.length_append, List.length_singleton]; omega) (fun c hcc => by rw [Nat.sub_self] at hcc; cases hcc)) (fun hu => by
          rw [hsp, argsR_part acc _ _ hc, hu])
        have hj1 : Ev (fun k => hatstandref3_args.j1 k s acc (from_ : Int) (i : Int) true) (argsR acc (s.data.toList.drop from_)) := by
          refine Ev.step (fun k => ?_) hj
          rw [hatstandref3_args.j1, if_pos rfl, if_pos (by omega), if_pos (by omega), hb, h44]
          rfl
        exact Ev.step (fun k => by rw [hatstandref3_args.l0, if_pos (by omega), hx]) hj1
      · have ih := args_loop s hs hne m (i + 1) from_ acc (by omega) (by omega) (by omega) (fun c hcc => by
          rw [htk] at hcc
          rcases List.mem_append.1 hcc with h | h
          · exact hc c h
          · rw [List.mem_singleton.1 h]
            exact h44)
        have hne44 : ((s.data.toList[i].toNat : Int) != 44) = true := by
          refine bne_iff_ne.2 fun e => h44 ?_
          have e2 : s.data.toList[i].toNat = (44 : UInt8).toNat := by
            show _ = 44
            omega
          exact UInt8.toNat_inj.1 e2
        have hj : Ev (fun k => hatstandref3_args.j2 k s acc (from_ : Int) (i : Int) true) (argsR acc (s.data.toList.drop from_)) := by
          refine Ev.step (fun k => ?_) ih
          rw [hatstandref3_args.j2, if_pos rfl, wrap64_in _ (by omega)]
          rfl
        have hj1 : Ev (fun k => hatstandref3_args.j1 k s acc (from_ : Int) (i : Int) true) (argsR acc (s.data.toList.drop from_)) := by
          refine Ev.step (fun k => ?_) hj
          rw [hatstandref3_args.j1, if_pos rfl, if_pos (by omega), if_pos (by omega), hb, hne44]
        exact Ev.step (fun k => by rw [hatstandref3_args.l0, if_pos (by omega), hx]) hj1

theorem args_ev (s : ByteArray) (hs : s.size ≤ 1000000) : Ev (fun k => hatstandref3_args.f k s) (numsOfL s.data.toList) := by
  have hl : s.data.toList.length = s.size := by simp
  by_cases h0 : s.size = 0
  · have e : s.data.toList = [] := List.length_eq_zero_iff.1 (by omega)
    rw [e]
    have hx : (s.toList != ([] : List UInt8)) = false := by rw [toList_data, e]; rfl
    have hj1 : Ev (fun k => hatstandref3_args.j1 k s [] 0 0 false) (([] : List Int), true) := Ev.step (fun k => by rw [hatstandref3_args.j1, if_neg (by simp)]) (Ev.now _)
    refine Ev.step (g := fun k => hatstandref3_args.f k s) (fun k => ?_) hj1
    unfold hatstandref3_args.f
    rw [hatstandref3_args.l0, if_pos (by omega), hx]
  · have h := args_loop s hs h0 s.size 0 0 [] (Nat.zero_add _) (Nat.le_refl _) (Nat.le_refl _) (fun c hc => by cases hc)
    have hne : s.data.toList ≠ [] := fun e => by rw [e, List.length_nil] at hl; omega
    unfold numsOfL
    rw [if_neg hne]
    rw [List.drop_zero] at h
    unfold argsR at h
    exact h
end Go.Proofs.YtcldjdngfmakbaaDoor.G

namespace Go.Proofs.YtcldjdngfmakbaaDoor.G
open Go.RowKit Go.Proofs.YtcldjdngfmakbaaDoor Go.Proofs.YtcldjdngfmakbaaDoorW.PrintWords Go.Lib
set_option linter.unusedVariables false
set_option linter.unusedSimpArgs false

theorem blank_eq (r : Int) : hatstandref3_Blank.f r = some (isBlank r) := by
  unfold hatstandref3_Blank.f
  by_cases h : isBlank r = true
  · rw [h]
    have := (isBlank_iff r).1 h
    by_cases h9 : r = 9
    · rw [if_pos h9]
    · rw [if_neg h9]
      by_cases h10 : r = 10
      · rw [if_pos h10]
      · rw [if_neg h10, show (r == 32) = true from beq_iff_eq.2 (by omega)]
  · have hn : ¬ (r = 32 ∨ r = 9 ∨ r = 10) := fun e => h ((isBlank_iff r).2 e)
    rw [Bool.eq_false_iff.2 h, if_neg (by omega), if_neg (by omega), show (r == 32) = false from beq_eq_false_iff_ne.2 (by omega)]
theorem num_eq (r : Int) : hatstandref3_Number.f r = some (isNum r) := by
  unfold hatstandref3_Number.f
  by_cases h : isNum r = true
  · rw [h]
    have := (isNum_iff r).1 h
    by_cases h1 : r ≥ 48
    · rw [if_pos h1, if_pos (by omega)]
    · rw [if_neg h1, show (r == 44) = true from beq_iff_eq.2 (by omega)]
  · have hn : ¬ ((48 ≤ r ∧ r ≤ 57) ∨ r = 44) := fun e => h ((isNum_iff r).2 e)
    have e44 : (r == 44) = false := beq_eq_false_iff_ne.2 (by omega)
    rw [Bool.eq_false_iff.2 h, e44]
    by_cases h1 : r ≥ 48
    · rw [if_pos h1, if_neg (by omega)]
    · rw [if_neg h1]

/-- What follows an entry's numbers is no number. -/
def nextOk (st : PSt) (t : List UInt8) : Prop := st.opn = true → t ≠ [] → ¬ isNum ((decodeL t).1 : Int) = true

theorem decode_num (c : UInt8) (t : List UInt8) (h : isNum ((decodeL (c :: t)).1 : Int) = true) : isNum (c.toNat : Int) = true := by
  by_cases hc : c.toNat < 128
  · rw [decodeL_one c t hc] at h
    exact h
  · exfalso
    have h1 := (isNum_iff _).1 h
    have h2 : 128 ≤ (decodeL (c :: t)).1 := by
      rw [decodeL_N]
      simp only [List.getD_cons_zero]
      unfold decodeN
      rw [if_neg hc]
      split
      · split <;> simp_all
      · split
        · split
          · rename_i h3; simp only; omega
          · simp
        · split
          · split
            · rename_i h3; simp only; omega
            · simp
          · simp
    omega

theorem shut_txt (r : Int) (i : Nat) (bs : List UInt8) (hb : ∀ c ∈ bs, c.toNat < 128) : shutE (newE r i) (bs.map (fun c => (c.toNat : Int))) = if isNum r = true then ⟨r, [], false, (i : Int)⟩ else ⟨r, (numsOfL bs).1, (numsOfL bs).2, (i : Int)⟩ := by
  unfold shutE
  rw [numsOf_L, runesBytes_ascii bs hb]
  rfl

theorem endP_open (E : List S33) (r : Int) (i : Nat) (txt : List Int) : endP ⟨E ++ [newE r i], txt, true⟩ = E ++ [shutE (newE r i) txt] := by
  unfold endP
  rw [closeF_pre E [newE r i] txt true (fun _ => by simp)]
  rfl

theorem parse_scan (s : ByteArray) (hs : s.size ≤ 1000000) (E : List S33) (r : Int) (i from_ : Nat) (hr : 0 ≤ r ∧ r ≤ 1114111) (hE : E.length ≤ i) (hif : i < from_) (hfs : from_ ≤ s.size)
    (hcont : ∀ (j : Nat) (st : PSt), from_ ≤ j → j ≤ s.size → okS st → nextOk st (s.data.toList.drop j) → (endP st).length ≤ j → Ev (fun k => hatstandref3_Parse.l0 k s ((endP st).map cvE) (j : Int)) ((endP ((rl j (s.data.toList.drop j)).foldl stepP st)).map cvE)) :
    ∀ (m j : Nat) (bs : List UInt8), j + m = s.size → from_ ≤ j → bs = (s.data.toList.drop from_).take (j - from_) → (∀ c ∈ bs, isNum (c.toNat : Int) = true) →
      Ev (fun k => hatstandref3_Parse.l1 k s (E.map cvE) (j : Int) r (i : Int) (from_ : Int)) ((endP ((rl j (s.data.toList.drop j)).foldl stepP ⟨E ++ [newE r i], bs.map (fun c => (c.toNat : Int)), true⟩)).map cvE) := by
  intro m
  have hl : s.data.toList.length = s.size := by simp
  -- the scan ends
  have fin : ∀ (j : Nat) (bs : List UInt8), j ≤ s.size → from_ ≤ j → bs = (s.data.toList.drop from_).take (j - from_) → (∀ c ∈ bs, isNum (c.toNat : Int) = true) → (s.data.toList.drop j ≠ [] → ¬ isNum ((decodeL (s.data.toList.drop j)).1 : Int) = true) →
      Ev (fun k => hatstandref3_Parse.j2 k s (E.map cvE) (j : Int) r (i : Int) (from_ : Int)) ((endP ((rl j (s.data.toList.drop j)).foldl stepP ⟨E ++ [newE r i], bs.map (fun c => (c.toNat : Int)), true⟩)).map cvE) := by
    intro j bs hj hfj hbs hn hx
    have h128 : ∀ c ∈ bs, c.toNat < 128 := fun c hc => by have := (isNum_iff _).1 (hn c hc); omega
    have ha := args_ev (s.extract from_ j) (by rw [ByteArray.size_extract]; omega)
    rw [extract_mid, ← hbs] at ha
    have hc := hcont j ⟨E ++ [newE r i], bs.map (fun c => (c.toNat : Int)), true⟩ hfj hj (fun _ => by simp) (fun _ => hx) (by rw [endP_open]; simp; omega)
    rw [endP_open, shut_txt r i bs h128, List.map_append] at hc
    have hb : Ev (fun k => (hatstandref3_args.f k (s.extract from_ j)).bind fun bt226 => ((hatstandref3_Number.f r).bind fun t230 => (if t230 = true then (if (E.map cvE).length < 2932031007402 then (hatstandref3_Parse.l0 k s ((E.map cvE) ++ [(⟨r, ([] : List Int), false, (i : Int)⟩ : S29)]) (j : Int)) else (none)) else (if (E.map cvE).length < 2932031007402 then (hatstandref3_Parse.l0 k s ((E.map cvE) ++ [(⟨r, bt226.1, bt226.2, (i : Int)⟩ : S29)]) (j : Int)) else (none))))) ((endP ((rl j (s.data.toList.drop j)).foldl stepP ⟨E ++ [newE r i], bs.map (fun c => (c.toNat : Int)), true⟩)).map cvE) := by
      refine Ev.bind ha (Ev.congr (fun k => ?_) hc)
      rw [num_eq]
      simp only [Option.bind_some]
      rw [List.length_map]
      have hw : wrap64 r = r := wrap64_in _ (by omega)
      by_cases hnr : isNum r = true
      · rw [if_pos hnr, if_pos hnr, if_pos (by omega)]
        simp only [List.map_cons, List.map_nil, cvE, hw]
      · rw [if_neg hnr, if_neg hnr, if_pos (by omega)]
        simp only [List.map_cons, List.map_nil, cvE, hw]
    refine Ev.step (fun k => ?_) hb
    rw [hatstandref3_Parse.j2, if_pos (by omega), if_pos (by omega), if_pos (by omega), Int.toNat_natCast, Int.toNat_natCast]
  induction m with
  | zero =>
    intro j bs hj hfj hbs hn
    have e : s.data.toList.drop j = [] := List.drop_eq_nil_of_le (by omega)
    refine Ev.step (fun k => ?_) (fin j bs (by omega) hfj hbs hn (fun h => absurd e h))
    rw [hatstandref3_Parse.l1, if_neg (by omega)]
  | succ m ih =>
    intro j bs hj hfj hbs hn
    have hlt : j < s.data.toList.length := by omega
    have hb := bt_getD s j
    have hg : s.data.toList.getD j 0 = s.data.toList[j] := by simp [List.getD, List.getElem?_eq_getElem hlt]
    rw [hg] at hb
    have hdr := List.drop_eq_getElem_cons hlt
    have h256 := UInt8.toNat_lt s.data.toList[j]
    by_cases hc : isNum (s.data.toList[j].toNat : Int) = true
    · have h128 : s.data.toList[j].toNat < 128 := by have := (isNum_iff _).1 hc; omega
      have hnb : ¬ isBlank (s.data.toList[j].toNat : Int) = true := fun e => by
        have h1 := (isBlank_iff _).1 e
        have h2 := (isNum_iff _).1 hc
        omega
      have h2 := ih (j + 1) (bs ++ [s.data.toList[j]]) (by omega) (by omega) (by
        rw [hbs, show j + 1 - from_ = (j - from_) + 1 by omega, List.take_add_one, List.getElem?_drop, show from_ + (j - from_) = j by omega, List.getElem?_eq_getElem hlt]
        rfl) (fun c hcc => by
        rcases List.mem_append.1 hcc with h | h
        · exact hn c h
        · rw [List.mem_singleton.1 h]
          exact hc)
      rw [hdr, rl_cons_ascii _ _ _ h128, List.foldl_cons, stepP_num hnb hc]
      rw [List.map_append, List.map_cons, List.map_nil] at h2
      refine Ev.step (fun k => ?_) h2
      rw [hatstandref3_Parse.l1, if_pos (by omega), if_pos (by omega), hb, wrap64_in _ (by omega), num_eq, hc]
      simp only [Option.bind_some, if_true]
      rw [wrap64_in _ (by omega)]
      rfl
    · refine Ev.step (fun k => ?_) (fin j bs (by omega) hfj hbs hn (fun _ e => hc (by rw [hdr] at e; exact decode_num _ _ e)))
      rw [hatstandref3_Parse.l1, if_pos (by omega), if_pos (by omega), hb, wrap64_in _ (by omega), num_eq, Bool.eq_false_iff.2 hc]
      simp only [Option.bind_some]
      rw [if_neg (by simp)]

theorem decode_width_le (l : List UInt8) : (decodeL l).2 ≤ 4 := by
  rw [decodeL_N]
  unfold decodeN
  repeat' split
  all_goals simp

theorem parse_loop (s : ByteArray) (hs : s.size ≤ 1000000) : ∀ (n j : Nat) (st : PSt), s.size - j ≤ n → j ≤ s.size → okS st → nextOk st (s.data.toList.drop j) → (endP st).length ≤ j →
    Ev (fun k => hatstandref3_Parse.l0 k s ((endP st).map cvE) (j : Int)) ((endP ((rl j (s.data.toList.drop j)).foldl stepP st)).map cvE)
  | n, j, st, hn, hj, ho, hx, hlen => by
    have hl : s.data.toList.length = s.size := by simp
    by_cases hlt : j < s.size
    · cases n with
      | zero => omega
      | succ n =>
      obtain ⟨t, ht⟩ : ∃ t, s.data.toList.drop j = t := ⟨_, rfl⟩
      have hne : t ≠ [] := fun e => by
        have := congrArg List.length ht
        rw [e, List.length_drop, List.length_nil] at this
        omega
      have htl : t.length = s.size - j := by rw [← ht, List.length_drop]; omega
      have hru := rune_ev (s.extract j s.size) (by rw [ByteArray.size_extract]; omega)
      have he : (s.extract j s.size).data.toList = t := by
        rw [extract_mid, ht, List.take_of_length_le (by omega)]
      rw [he] at hru
      have hw1 := decodeL_width t
      have hw4 := decode_width_le t
      have hwl := decodeL_le t hne
      have hrr := decodeL_rune t
      have hdr : t.drop (decodeL t).2 = s.data.toList.drop (j + (decodeL t).2) := by rw [← ht, List.drop_drop]
      have hcast : (j : Int) + ((decodeL t).2 : Int) = ((j + (decodeL t).2 : Nat) : Int) := by omega
      rw [ht] at hx ⊢
      rw [rl_step j t hne, List.foldl_cons, hdr]
      by_cases hb : isBlank ((decodeL t).1 : Int) = true
      · rw [blank_fold st (j, ((decodeL t).1 : Int)) hb]
        have e0 : endP (pre (endP st) st0) = endP st := by rw [endP_pre _ _ okS0]; simp [endP, st0, closeF]
        have ih := parse_loop s hs n (j + (decodeL t).2) (pre (endP st) st0) (by omega) (by omega) (fun h => by cases h) (fun h => by cases h) (by rw [e0]; omega)
        rw [e0] at ih
        have hb2 : Ev (fun k => (hatstandref3_Rune.f k (s.extract j s.size)).bind fun bt222 => ((hatstandref3_Blank.f bt222.1).bind fun t224 => (if t224 = true then (hatstandref3_Parse.l0 k s ((endP st).map cvE) (wrap64 ((j : Int) + bt222.2))) else (hatstandref3_Parse.l1 k s ((endP st).map cvE) (wrap64 ((j : Int) + bt222.2)) bt222.1 (j : Int) (wrap64 ((j : Int) + bt222.2)))))) ((endP ((rl (j + (decodeL t).2) (s.data.toList.drop (j + (decodeL t).2))).foldl stepP (pre (endP st) st0))).map cvE) := by
          refine Ev.bind hru (Ev.congr (fun k => ?_) ih)
          rw [blank_eq, hb]
          simp only [Option.bind_some, if_true]
          rw [wrap64_in _ (by omega), hcast]
        refine Ev.step (fun k => ?_) hb2
        rw [hatstandref3_Parse.l0, if_pos (by omega), if_pos (by omega), if_pos (by omega), Int.toNat_natCast]
      · have hst : stepP st (j, ((decodeL t).1 : Int)) = ⟨endP st ++ [newE ((decodeL t).1 : Int) j], [], true⟩ := by
          obtain ⟨es, txt, opn⟩ := st
          exact stepP_new hb (fun h => hx h.1 hne h.2)
        rw [hst]
        have hsc := parse_scan s hs (endP st) ((decodeL t).1 : Int) j (j + (decodeL t).2) (by omega) hlen (by omega) (by omega)
          (fun j' st' h1 h2 h3 h4 h5 => parse_loop s hs n j' st' (by omega) h2 h3 h4 h5) (s.size - (j + (decodeL t).2)) (j + (decodeL t).2) [] (by omega) (Nat.le_refl _) (by rw [Nat.sub_self]; rfl) (fun c hc => by cases hc)
        have hb2 : Ev (fun k => (hatstandref3_Rune.f k (s.extract j s.size)).bind fun bt222 => ((hatstandref3_Blank.f bt222.1).bind fun t224 => (if t224 = true then (hatstandref3_Parse.l0 k s ((endP st).map cvE) (wrap64 ((j : Int) + bt222.2))) else (hatstandref3_Parse.l1 k s ((endP st).map cvE) (wrap64 ((j : Int) + bt222.2)) bt222.1 (j : Int) (wrap64 ((j : Int) + bt222.2)))))) ((endP ((rl (j + (decodeL t).2) (s.data.toList.drop (j + (decodeL t).2))).foldl stepP ⟨endP st ++ [newE ((decodeL t).1 : Int) j], [], true⟩)).map cvE) := by
          refine Ev.bind hru (Ev.congr (fun k => ?_) hsc)
          rw [blank_eq, Bool.eq_false_iff.2 hb]
          simp only [Option.bind_some]
          rw [if_neg (by simp), wrap64_in _ (by omega), hcast]
        refine Ev.step (fun k => ?_) hb2
        rw [hatstandref3_Parse.l0, if_pos (by omega), if_pos (by omega), if_pos (by omega), Int.toNat_natCast]
    · have e : s.data.toList.drop j = [] := List.drop_eq_nil_of_le (by omega)
      rw [e, rl_nil]
      refine Ev.step (fun k => ?_) (Ev.now _)
      rw [hatstandref3_Parse.l0, if_neg (by omega)]
      rfl

theorem refParse_ev (s : ByteArray) (hs : s.size ≤ 1000000) : Ev (fun k => hatstandref3_Parse.f k s) ((parseL s.data.toList).map cvE) := by
  have h := parse_loop s hs s.size 0 st0 (by omega) (Nat.zero_le _) okS0 (fun h => by cases h) (Nat.le_refl _)
  rw [List.drop_zero] at h
  exact h
end Go.Proofs.YtcldjdngfmakbaaDoor.G

namespace Go.Proofs.YtcldjdngfmakbaaDoor.G
open Go.RowKit Go.Proofs.YtcldjdngfmakbaaDoor Go.Proofs.YtcldjdngfmakbaaDoorW.PrintWords Go.Lib
set_option linter.unusedVariables false
set_option linter.unusedSimpArgs false

/-! ### a rune's bytes, a number's digits -/
theorem strOf_eq (xs : List Int) (ys : List Int) (h : xs = ys) : (strOfNums xs).data.toList = ys.map (fun x => x.toNat.toUInt8) := by
  rw [h, strOfNums_data]
theorem utf8_ev (r : Int) (hv : Lib.validRune r = true) : ∃ b : ByteArray, hatstandref3_utf8.f r = some b ∧ b.data.toList = encodeRune r := by
  have hv' : (0 ≤ r ∧ r < 0xD800) ∨ (0xDFFF < r ∧ r ≤ 0x10FFFF) := by simpa [Lib.validRune] using hv
  have t1 : ∀ d : Int, 0 < d → Int.tdiv r d = r / d := fun d hd => Int.tdiv_eq_ediv_of_nonneg (by omega)
  have t2 : ∀ (x d : Int), 0 ≤ x → Int.tmod x d = x % d := fun x d hx => Int.tmod_eq_emod_of_nonneg hx
  have m1 : ∀ x : Int, 0 ≤ x → x < 256 → x % 256 = x := fun x h1 h2 => Int.emod_eq_of_lt h1 h2
  unfold hatstandref3_utf8.f encodeRune encodeRuneZ
  by_cases c1 : r < 128
  · rw [if_pos c1, if_pos (show 0 ≤ r ∧ r ≤ 127 by omega)]
    exact ⟨_, rfl, strOf_eq _ _ (by rw [Int.emod_eq_of_lt (by omega) (by omega)])⟩
  rw [if_neg c1, if_neg (show ¬ (0 ≤ r ∧ r ≤ 127) by omega)]
  by_cases c2 : r < 2048
  · rw [if_pos c2, if_pos (show 128 ≤ r ∧ r ≤ 2047 by omega)]
    refine ⟨_, rfl, strOf_eq _ _ ?_⟩
    rw [t1 64 (by omega), t2 r 64 (by omega), wrap64_in (r / 64) (by omega), wrap64_in (192 + r / 64) (by omega), wrap64_in (128 + r % 64) (by omega), Int.emod_eq_of_lt (by omega) (by omega), Int.emod_eq_of_lt (by omega) (by omega)]
  rw [if_neg c2, if_neg (show ¬ (128 ≤ r ∧ r ≤ 2047) by omega)]
  by_cases c3 : r < 65536
  · rw [if_pos c3, if_pos (show (2048 ≤ r ∧ r < 55296) ∨ (57343 < r ∧ r ≤ 65535) by omega)]
    refine ⟨_, rfl, strOf_eq _ _ ?_⟩
    rw [t1 4096 (by omega), t1 64 (by omega), t2 r 64 (by omega), wrap64_in (r / 4096) (by omega), wrap64_in (r / 64) (by omega), t2 (r / 64) 64 (by omega), wrap64_in (224 + r / 4096) (by omega), wrap64_in (128 + r / 64 % 64) (by omega), wrap64_in (128 + r % 64) (by omega), m1 (224 + r / 4096) (by omega) (by omega), m1 (128 + r / 64 % 64) (by omega) (by omega), m1 (128 + r % 64) (by omega) (by omega)]
  · rw [if_neg c3, if_neg (show ¬ ((2048 ≤ r ∧ r < 55296) ∨ (57343 < r ∧ r ≤ 65535)) by omega), if_pos (show 65536 ≤ r ∧ r ≤ 1114111 by omega)]
    refine ⟨_, rfl, strOf_eq _ _ ?_⟩
    rw [t1 262144 (by omega), t1 4096 (by omega), t1 64 (by omega), t2 r 64 (by omega), wrap64_in (r / 262144) (by omega), wrap64_in (r / 4096) (by omega), wrap64_in (r / 64) (by omega), t2 (r / 4096) 64 (by omega), t2 (r / 64) 64 (by omega), wrap64_in (240 + r / 262144) (by omega), wrap64_in (128 + r / 4096 % 64) (by omega), wrap64_in (128 + r / 64 % 64) (by omega), wrap64_in (128 + r % 64) (by omega), m1 (240 + r / 262144) (by omega) (by omega), m1 (128 + r / 4096 % 64) (by omega) (by omega), m1 (128 + r / 64 % 64) (by omega) (by omega), m1 (128 + r % 64) (by omega) (by omega)]

theorem wrapU (z : Int) (h : 0 ≤ z ∧ z < 18446744073709551616) : IntKind.u64.wrap z = z := by
  have w1 : IntKind.u64.wrap z = z % 18446744073709551616 := by simp [IntKind.wrap, IntKind.bits, IntKind.signed]
  rw [w1]
  omega
theorem digit_extract : ∀ d : Nat, d < 10 → ((⟨#[48, 49, 50, 51, 52, 53, 54, 55, 56, 57]⟩ : ByteArray).extract d (d + 1)).data.toList = [UInt8.ofNat (48 + d)] := by decide +kernel
theorem digit_piece (n : Int) (hn : 0 ≤ n ∧ n < 18446744073709551616) : 0 ≤ Int.tmod n 10 ∧ Int.tmod n 10 = ((n.toNat % 10 : Nat) : Int) ∧ IntKind.u64.wrap (Int.tmod n 10 + 1) = ((n.toNat % 10 + 1 : Nat) : Int) ∧ IntKind.u64.wrap (Int.tdiv n 10) = ((n.toNat / 10 : Nat) : Int) := by
  have t2 : Int.tmod n 10 = n % 10 := Int.tmod_eq_emod_of_nonneg hn.1
  have t1 : Int.tdiv n 10 = n / 10 := Int.tdiv_eq_ediv_of_nonneg hn.1
  rw [t2, t1, wrapU _ (by omega), wrapU _ (by omega)]
  omega
def decU (u : Nat) : List UInt8 := if u = 0 then [] else decDigits u
theorem decU_step (u : Nat) (h : u ≠ 0) : decU u = decU (u / 10) ++ [UInt8.ofNat (48 + u % 10)] := by
  unfold decU
  rw [if_neg h, decDigits]
  by_cases h10 : u < 10
  · rw [dif_pos h10, if_pos (by omega), List.nil_append, Nat.mod_eq_of_lt h10]
  · rw [dif_neg h10, if_neg (by omega)]
theorem digits_loop (u : Nat) (acc : ByteArray) (hu : u < 18446744073709551616) (ha : acc.size + (decU u).length ≤ 1000000) : ∃ b : ByteArray, Ev (fun k => hatstandref3_Digits.l0 k (u : Int) acc) b ∧ b.data.toList = decU u ++ acc.data.toList := by
    by_cases h0 : u = 0
    · subst h0
      refine ⟨acc, Ev.step (fun k => ?_) (Ev.now _), by simp [decU]⟩
      rw [hatstandref3_Digits.l0, if_neg (by omega)]
    · obtain ⟨p0, p1, p2, p3⟩ := digit_piece (u : Int) (by omega)
      rw [Int.toNat_natCast] at p1 p2 p3
      have hd := digit_extract (u % 10) (by omega)
      have hsz : ((⟨#[48, 49, 50, 51, 52, 53, 54, 55, 56, 57]⟩ : ByteArray).extract (u % 10) (u % 10 + 1)).size = 1 := by
        have : ((⟨#[48, 49, 50, 51, 52, 53, 54, 55, 56, 57]⟩ : ByteArray).extract (u % 10) (u % 10 + 1)).data.toList.length = 1 := by rw [hd]; rfl
        rwa [data_length] at this
      have hst := decU_step u h0
      rw [hst, List.length_append, List.length_singleton] at ha
      obtain ⟨b, hb, hbl⟩ := digits_loop (u / 10) (((⟨#[48, 49, 50, 51, 52, 53, 54, 55, 56, 57]⟩ : ByteArray).extract (u % 10) (u % 10 + 1)) ++ acc) (by omega) (by rw [ByteArray.size_append, hsz]; omega)
      refine ⟨b, Ev.step (fun k => ?_) hb, ?_⟩
      · rw [hatstandref3_Digits.l0, if_pos (by omega), if_pos p0, p2, p3, p1, if_pos (by omega), if_pos (by omega), Int.toNat_natCast, Int.toNat_natCast, hsz, if_pos (by omega)]
      · rw [hbl, hst]
        have : (((⟨#[48, 49, 50, 51, 52, 53, 54, 55, 56, 57]⟩ : ByteArray).extract (u % 10) (u % 10 + 1)) ++ acc).data.toList = [UInt8.ofNat (48 + u % 10)] ++ acc.data.toList := by
          rw [← hd]
          simp
        rw [this, List.append_assoc]
termination_by u
decreasing_by omega
theorem digits_ev (x : Int) (hx : 0 ≤ x ∧ x < 18446744073709551616) : ∃ b : ByteArray, Ev (fun k => hatstandref3_Digits.f k x) b ∧ b.data.toList = decDigits x.toNat := by
  obtain ⟨p0, p1, p2, p3⟩ := digit_piece x hx
  have hd := digit_extract (x.toNat % 10) (by omega)
  have hsz : ((⟨#[48, 49, 50, 51, 52, 53, 54, 55, 56, 57]⟩ : ByteArray).extract (x.toNat % 10) (x.toNat % 10 + 1)).size = 1 := by
    have : ((⟨#[48, 49, 50, 51, 52, 53, 54, 55, 56, 57]⟩ : ByteArray).extract (x.toNat % 10) (x.toNat % 10 + 1)).data.toList.length = 1 := by rw [hd]; rfl
    rwa [data_length] at this
  have hlen : (decU (x.toNat / 10)).length ≤ 20 := by
    unfold decU
    split
    · simp
    · exact decDigits_len _ (by omega)
  obtain ⟨b, hb, hbl⟩ := digits_loop (x.toNat / 10) ((⟨#[48, 49, 50, 51, 52, 53, 54, 55, 56, 57]⟩ : ByteArray).extract (x.toNat % 10) (x.toNat % 10 + 1)) (by omega) (by rw [hsz]; omega)
  refine ⟨b, Ev.congr (fun k => ?_) hb, ?_⟩
  · unfold hatstandref3_Digits.f
    rw [if_pos p0, p2, p3, p1, if_pos (by omega), if_pos (by omega), Int.toNat_natCast, Int.toNat_natCast]
  · rw [hbl, hd]
    conv => rhs; rw [decDigits]
    by_cases h10 : x.toNat < 10
    · rw [dif_pos h10, show x.toNat / 10 = 0 by omega, Nat.mod_eq_of_lt h10]
      rfl
    · rw [dif_neg h10]
      unfold decU
      rw [if_neg (by omega)]

/-! ### what may not be put -/
theorem badE_iff (e : S33) : badE e = true ↔ e.f2 = false ∨ e.f0 < 0 ∨ e.f0 > 1114111 ∨ (55296 ≤ e.f0 ∧ e.f0 ≤ 57343) ∨ e.f0 = 65533 ∨ isBlank e.f0 = true ∨ isNum e.f0 = true := by
  unfold badE
  simp only [Bool.or_eq_true, Bool.not_eq_true', mark_iff, Lib.validRune, decide_eq_false_iff_not, beq_iff_eq]
  constructor
  · rintro (h | h | h | h)
    · exact .inl h
    · exact .inr (.inr (.inr (.inr (.inr h))))
    · omega
    · exact .inr (.inr (.inr (.inr (.inl h))))
  · rintro (h | h | h | h | h | h)
    · exact .inl h
    · exact .inr (.inr (.inl (by omega)))
    · exact .inr (.inr (.inl (by omega)))
    · exact .inr (.inr (.inl (by omega)))
    · exact .inr (.inr (.inr h))
    · exact .inr (.inl h)

theorem put_chain {α : Type} (g : Bool → Option α) (e : S33) : (if e.f2 = true then (if e.f0 < 0 then g true else (if e.f0 > 1114111 then g true else (if e.f0 ≥ 55296 then (if e.f0 ≤ 57343 then g true else (if e.f0 = 65533 then g true else ((hatstandref3_Blank.f e.f0).bind fun t199 => (if t199 = true then g true else ((hatstandref3_Number.f e.f0).bind fun t200 => g t200))))) else (if e.f0 = 65533 then g true else ((hatstandref3_Blank.f e.f0).bind fun t201 => (if t201 = true then g true else ((hatstandref3_Number.f e.f0).bind fun t202 => g t202))))))) else g true) = g (badE e) := by
  have hb := badE_iff e
  have tl : ¬ (e.f2 = false ∨ e.f0 < 0 ∨ e.f0 > 1114111 ∨ (55296 ≤ e.f0 ∧ e.f0 ≤ 57343) ∨ e.f0 = 65533) → ((hatstandref3_Blank.f e.f0).bind fun t199 => (if t199 = true then g true else ((hatstandref3_Number.f e.f0).bind fun t200 => g t200))) = g (badE e) := by
    intro hn
    rw [blank_eq, num_eq]
    simp only [Option.bind_some]
    by_cases h : isBlank e.f0 = true
    · rw [if_pos h, hb.2 (.inr (.inr (.inr (.inr (.inr (.inl h))))))]
    · rw [if_neg h]
      congr 1
      cases hx : isNum e.f0 with
      | true => rw [hb.2 (.inr (.inr (.inr (.inr (.inr (.inr hx))))))]
      | false =>
        refine (Bool.eq_false_iff.2 fun hc => ?_).symm
        rcases hb.1 hc with h1 | h1 | h1 | h1 | h1 | h1 | h1
        · exact hn (.inl h1)
        · exact hn (.inr (.inl h1))
        · exact hn (.inr (.inr (.inl h1)))
        · exact hn (.inr (.inr (.inr (.inl h1))))
        · exact hn (.inr (.inr (.inr (.inr h1))))
        · exact h h1
        · rw [hx] at h1; cases h1
  by_cases c0 : e.f2 = true
  · rw [if_pos c0]
    have c0' : ¬ e.f2 = false := by rw [c0]; simp
    by_cases c1 : e.f0 < 0
    · rw [if_pos c1, hb.2 (.inr (.inl c1))]
    rw [if_neg c1]
    by_cases c2 : e.f0 > 1114111
    · rw [if_pos c2, hb.2 (.inr (.inr (.inl c2)))]
    rw [if_neg c2]
    by_cases c3 : e.f0 ≥ 55296
    · rw [if_pos c3]
      by_cases c4 : e.f0 ≤ 57343
      · rw [if_pos c4, hb.2 (.inr (.inr (.inr (.inl ⟨c3, c4⟩))))]
      rw [if_neg c4]
      by_cases c5 : e.f0 = 65533
      · rw [if_pos c5, hb.2 (.inr (.inr (.inr (.inr (.inl c5)))))]
      rw [if_neg c5]
      exact tl (by rintro (h | h | h | h | h); exact c0' h; exact c1 h; exact c2 h; exact c4 h.2; exact c5 h)
    · rw [if_neg c3]
      by_cases c5 : e.f0 = 65533
      · rw [if_pos c5, hb.2 (.inr (.inr (.inr (.inr (.inl c5)))))]
      rw [if_neg c5]
      exact tl (by rintro (h | h | h | h | h); exact c0' h; exact c1 h; exact c2 h; exact c3 h.1; exact c5 h)
  · rw [if_neg c0, hb.2 (.inl (by simpa using c0))]
end Go.Proofs.YtcldjdngfmakbaaDoor.G

namespace Go.Proofs.YtcldjdngfmakbaaDoor.G
open Go.RowKit Go.Proofs.YtcldjdngfmakbaaDoor Go.Proofs.YtcldjdngfmakbaaDoorW.PrintWords Go.Lib
set_option linter.unusedVariables false
set_option linter.unusedSimpArgs false

theorem append_list (a b : ByteArray) : (a ++ b).data.toList = a.data.toList ++ b.data.toList := by simp
theorem of_list (b : ByteArray) (l : List UInt8) (h : b.data.toList = l) : b = ⟨l.toArray⟩ := by
  cases b with
  | mk d =>
    congr
    rw [← h]

/-- One entry's numbers. -/
theorem refPut_args (l : List S33) (i : Nat) (hi : i < l.length) (hil : i < 1000000) (ha : okArgs (l.getD i z33).f1) (hf : (l.getD i z33).f1.length < 1000000) (N : Nat) {r : ByteArray × Int} (X : List UInt8)
    (hr : ∀ x4 : ByteArray, x4.data.toList = X ++ argsFrom false (l.getD i z33).f1 → Ev (fun k => hatstandref3_Put.l0 k (l.map cvE) x4 ((i + 1 : Nat) : Int)) r)
    (hN : X.length + (argsFrom false (l.getD i z33).f1).length ≤ 1000000) :
    ∀ (m q : Nat) (x4 : ByteArray), q + m = (l.getD i z33).f1.length → x4.data.toList ++ argsFrom (decide (0 < q)) ((l.getD i z33).f1.drop q) = X ++ argsFrom false (l.getD i z33).f1 → Ev (fun k => hatstandref3_Put.l1 k (l.map cvE) x4 (i : Int) (q : Int)) r
  | 0, q, x4, hq, hx => by
    have e : (l.getD i z33).f1.drop q = [] := List.drop_eq_nil_of_le (by omega)
    rw [e] at hx
    have hx' : x4.data.toList = X ++ argsFrom false (l.getD i z33).f1 := by
      rw [← hx]
      simp [argsFrom]
    refine Ev.step (fun k => ?_) (hr x4 hx')
    have hrd : rd_T29 (l.map cvE) (i : Int) = cvE (l.getD i z33) := map_getD l i hi
    have hf1 : (cvE (l.getD i z33)).f1 = (l.getD i z33).f1 := rfl
    rw [hatstandref3_Put.l1, if_pos (by omega), if_pos (by rw [List.length_map]; omega), hrd, hf1, if_neg (by omega), wrap64_in _ (by omega)]
    rfl
  | m + 1, q, x4, hq, hx => by
    have hlt : q < (l.getD i z33).f1.length := by omega
    have hrd : rd_T29 (l.map cvE) (i : Int) = cvE (l.getD i z33) := map_getD l i hi
    have hf1 : (cvE (l.getD i z33)).f1 = (l.getD i z33).f1 := rfl
    obtain ⟨x, hxx⟩ : ∃ x, (l.getD i z33).f1[q] = x := ⟨_, rfl⟩
    have hrx : rd (l.getD i z33).f1 (q : Int) = x := by
      rw [rdI, List.getD_eq_getElem?_getD, List.getElem?_eq_getElem hlt, hxx]
      rfl
    obtain ⟨b, hb, hbl⟩ := digits_ev x (by rw [← hxx]; exact ha _ (List.getElem_mem hlt))
    have hdr : (l.getD i z33).f1.drop q = x :: (l.getD i z33).f1.drop (q + 1) := by rw [List.drop_eq_getElem_cons hlt, hxx]
    rw [hdr, argsFrom] at hx
    have hlen := congrArg List.length hx
    rw [List.length_append, List.length_append, List.length_append, List.length_append, data_length] at hlen
    have hbs : b.size = (decDigits x.toNat).length := by rw [← hbl, data_length]
    have e1 : decide (0 < q + 1) = true := decide_eq_true (by omega)
    by_cases h0 : 0 < q
    · rw [decide_eq_true h0, if_pos rfl] at hx hlen
      rw [List.length_singleton] at hlen
      have s1 : (⟨#[44]⟩ : ByteArray).size = 1 := rfl
      have ih := refPut_args l i hi hil ha hf N X hr hN m (q + 1) ((x4 ++ (⟨#[44]⟩ : ByteArray)) ++ b) (by omega) (by
        rw [append_list, append_list, hbl, e1, ← hx]
        simp)
      have hB : Ev (fun k => (hatstandref3_Digits.f k x).bind fun t207 => (if (x4 ++ (⟨#[44]⟩ : ByteArray)).size + t207.size ≤ 9223372036854775807 then (hatstandref3_Put.l1 k (l.map cvE) ((x4 ++ (⟨#[44]⟩ : ByteArray)) ++ t207) (i : Int) (wrap64 ((q : Int) + 1))) else (none))) r := by
        refine Ev.bind hb (Ev.congr (fun k => ?_) ih)
        rw [ByteArray.size_append, s1, if_pos (by omega), wrap64_in _ (by omega)]
        rfl
      refine Ev.step (fun k => ?_) hB
      rw [hatstandref3_Put.l1, if_pos (by omega), if_pos (by rw [List.length_map]; omega), hrd, hf1, if_pos (by omega), if_pos (by omega), if_pos (by omega), if_pos (by omega), hrx]
    · rw [decide_eq_false h0, if_neg (by simp)] at hx hlen
      have ih := refPut_args l i hi hil ha hf N X hr hN m (q + 1) (x4 ++ b) (by omega) (by
        rw [append_list, hbl, e1, ← hx]
        simp)
      have hB : Ev (fun k => (hatstandref3_Digits.f k x).bind fun t210 => (if x4.size + t210.size ≤ 9223372036854775807 then (hatstandref3_Put.l1 k (l.map cvE) (x4 ++ t210) (i : Int) (wrap64 ((q : Int) + 1))) else (none))) r := by
        refine Ev.bind hb (Ev.congr (fun k => ?_) ih)
        rw [List.length_nil] at hlen
        rw [if_pos (by omega), wrap64_in _ (by omega)]
        rfl
      refine Ev.step (fun k => ?_) hB
      rw [hatstandref3_Put.l1, if_pos (by omega), if_pos (by rw [List.length_map]; omega), hrd, hf1, if_pos (by omega), if_neg (by omega), if_pos (by omega), hrx]

structure InRange (l : List S33) : Prop where
  op : ∀ e ∈ l, -9223372036854775808 ≤ e.f0 ∧ e.f0 ≤ 9223372036854775807
  args : ∀ e ∈ l, okArgs e.f1
  few : ∀ e ∈ l, e.f1.length < 1000000

theorem refPut_loop (l : List S33) (hr : InRange l) (hl : l.length ≤ 1000) (hs : (putBytes l).length ≤ 500000) : ∀ (m i : Nat) (x4 : ByteArray), i + m = l.length → x4.data.toList = putBytes (l.take i) → (l.take i).any badE = false →
    Ev (fun k => hatstandref3_Put.l0 k (l.map cvE) x4 (i : Int)) (putF l)
  | 0, i, x4, hi, hx, hb => by
    have e : l.take i = l := List.take_of_length_le (by omega)
    rw [e] at hx hb
    have : putF l = (x4, 0) := by
      unfold putF
      rw [if_neg (by rw [hb]; simp), of_list x4 _ hx]
    rw [this]
    refine Ev.step (fun k => ?_) (Ev.now _)
    rw [hatstandref3_Put.l0, List.length_map, if_neg (by omega)]
  | m + 1, i, x4, hi, hx, hb => by
    have hil : i < l.length := by omega
    have hrd : rd_T29 (l.map cvE) (i : Int) = cvE (l.getD i z33) := map_getD l i hil
    obtain ⟨e, he⟩ : ∃ e, l.getD i z33 = e := ⟨_, rfl⟩
    have hei : l[i] = e := by rw [← he]; simp [List.getD, List.getElem?_eq_getElem hil]
    have hem : e ∈ l := by rw [← hei]; exact List.getElem_mem hil
    have ht : l.take (i + 1) = l.take i ++ [e] := by
      rw [List.take_add_one, List.getElem?_eq_getElem hil, hei]
      rfl
    have hop : (cvE e).f0 = e.f0 := wrap64_in _ (hr.op e hem)
    have hcv : ∀ b : Bool, (∀ r, Ev (fun k => hatstandref3_Put.j1 k (l.map cvE) x4 (i : Int) e.f0 b) r → badE e = b → Ev (fun k => hatstandref3_Put.l0 k (l.map cvE) x4 (i : Int)) r) := by
      intro b r h hbe
      refine Ev.step (fun k => ?_) h
      rw [hatstandref3_Put.l0, List.length_map, if_pos (by omega), if_pos (by omega), hrd, he, hop, show (cvE e).f2 = e.f2 from rfl, ← hbe]
      exact put_chain (fun b => hatstandref3_Put.j1 k (l.map cvE) x4 (i : Int) e.f0 b) e
    cases hbe : badE e with
    | true =>
      have : putF l = (⟨#[]⟩, 1) := by
        unfold putF
        rw [if_pos (List.any_eq_true.2 ⟨e, hem, hbe⟩)]
      rw [this]
      exact hcv true _ (Ev.step (fun k => by rw [hatstandref3_Put.j1, if_pos rfl]) (Ev.now _)) hbe
    | false =>
      have hg := good_of e hbe (hr.args e hem)
      obtain ⟨u, hu, hul⟩ := utf8_ev e.f0 hg.valid
      have hsz : (putBytes (l.take (i + 1))).length ≤ (putBytes l).length := by
        have : putBytes l = putBytes (l.take (i + 1)) ++ putBytes (l.drop (i + 1)) := by rw [← putBytes_app, List.take_append_drop]
        rw [this, List.length_append]
        omega
      have hpb : putBytes (l.take (i + 1)) = putBytes (l.take i) ++ (encodeRune e.f0 ++ argsFrom false e.f1) := by
        rw [ht, putBytes_app]
        simp [putBytes, entryBytes]
      have hlen2 : (putBytes (l.take i)).length + ((encodeRune e.f0).length + (argsFrom false e.f1).length) ≤ 500000 := by
        rw [hpb, List.length_append, List.length_append] at hsz
        omega
      have hx4 : x4.size = (putBytes (l.take i)).length := by rw [← hx, data_length]
      have hus : u.size = (encodeRune e.f0).length := by rw [← hul, data_length]
      have hA := refPut_args l i hil (by omega) (by rw [he]; exact hr.args e hem) (by rw [he]; exact hr.few e hem) 0 (r := putF l) (putBytes (l.take i) ++ encodeRune e.f0) (fun x4' hx4' => by
          rw [he] at hx4'
          exact refPut_loop l hr hl hs m (i + 1) x4' (by omega) (by rw [hx4', hpb, List.append_assoc]) (by rw [ht, List.any_append, hb]; simp [hbe])) (by rw [he, List.length_append]; omega) (l.getD i z33).f1.length 0 (x4 ++ u) (Nat.zero_add _) (by
          rw [append_list, hx, hul, List.drop_zero]
          rfl)
      refine hcv false _ (Ev.step (fun k => ?_) hA) hbe
      rw [hatstandref3_Put.j1, if_neg (by simp), hu]
      simp only [Option.bind_some]
      rw [if_pos (by omega)]
      rfl
theorem refPut_ev (l : List S33) (hr : InRange l) (hl : l.length ≤ 1000) (hs : (putBytes l).length ≤ 500000) : Ev (fun k => hatstandref3_Put.f k (l.map cvE)) (putF l) :=
  refPut_loop l hr hl hs l.length 0 ⟨#[]⟩ (Nat.zero_add _) rfl rfl

/-! ### the law -/
def sumArgs (l : List S33) : Nat := (l.map (fun e => e.f1.length)).sum
theorem sum_weight (l : List S33) : (l.map weight).sum = 4 * l.length + 21 * sumArgs l := by
  unfold sumArgs
  induction l with
  | nil => rfl
  | cons e l ih =>
    rw [List.map_cons, List.map_cons, List.sum_cons, List.sum_cons, List.length_cons, ih]
    unfold weight
    omega
theorem le_sumArgs (l : List S33) : ∀ e ∈ l, e.f1.length ≤ sumArgs l := by
  unfold sumArgs
  induction l with
  | nil => intro e he; cases he
  | cons x l ih =>
    intro e he
    rw [List.map_cons, List.sum_cons]
    rcases List.mem_cons.1 he with rfl | h
    · omega
    · have := ih e h
      omega

theorem tells_pure (a0 : ByteArray) (a1 : List S33) (z0 : a0.size ≤ 140737488351232) (w1 : ∀ x ∈ a1, Entry_ok x) : ∃ k, hatstandlaw3_GlyphTells.f k a0 a1 = some true := by
  have hj : Ev (fun k => hatstandlaw3_GlyphTells.j0 k a0 a1 true true) true := Ev.step (fun k => by rw [hatstandlaw3_GlyphTells.j0, if_pos rfl]) (Ev.now true)
  by_cases g0 : (a0.size : Int) > 2000
  · refine Ev.rounds (Ev.congr (fun k => ?_) hj)
    simp only [hatstandlaw3_GlyphTells.f, hatstandlaw3_shown.f, Option.bind_some, if_true]
    rw [if_pos g0]
  by_cases g1 : (a1.length : Int) > 100
  · refine Ev.rounds (Ev.congr (fun k => ?_) hj)
    simp only [hatstandlaw3_GlyphTells.f, hatstandlaw3_shown.f, Option.bind_some, if_true]
    rw [if_neg g0, show decide ((a1.length : Int) > 100) = true from decide_eq_true g1]
  have hlen : ∀ i, (a1.getD i z33).f1.length ≤ 140737488351232 := by
    intro i
    by_cases h : i < a1.length
    · have e : a1.getD i z33 = a1[i] := by simp [List.getD, List.getElem?_eq_getElem h]
      rw [e]
      exact (w1 _ (List.getElem_mem h)).len
    · rw [List.getD_eq_getElem?_getD, List.getElem?_eq_none (by omega)]
      exact Nat.zero_le _
  have hsumle : ∀ l : List S33, (∀ e ∈ l, e.f1.length ≤ 140737488351232) → sumArgs l ≤ 140737488351232 * l.length := by
    intro l hl
    have := sum_le_mul (l.map (fun e => e.f1.length)) 140737488351232 (fun x hx => by
      obtain ⟨e, he, rfl⟩ := List.mem_map.1 hx
      exact hl e he)
    rw [List.length_map] at this
    exact this
  have last : Ev (fun k => hatstandlaw3_GlyphTells.l0 k a0 a1 (sumArgs a1 : Nat) (a1.length : Int)) true := by
    by_cases hbig : (sumArgs a1 : Int) > 1000
    · refine Ev.step (fun k => ?_) (Ev.now true)
      rw [hatstandlaw3_GlyphTells.l0, if_neg (by omega), if_pos hbig]
    · have hok : putOk a1 := by
        refine ⟨fun e he x hx => ?_, by rw [sum_weight]; omega⟩
        have := (w1 e he).args x hx
        have h2 : 0 ≤ x ∧ x ≤ 18446744073709551615 := by simpa [Lit.wf, IntKind.min, IntKind.max, IntKind.signed, IntKind.bits] using this
        omega
      have hput : glyph_Put.f a1 = some (putF a1) := by
        unfold glyph_Put.f
        rw [if_pos hok]
      have hpb := putBytes_len a1 hok.1
      rw [sum_weight] at hpb
      have hin : InRange a1 := ⟨fun e he => by
          have h := (w1 e he).op
          have h2 : -2147483648 ≤ e.f0 ∧ e.f0 ≤ 2147483647 := by simpa [Lit.wf, IntKind.min, IntKind.max, IntKind.signed, IntKind.bits] using h
          omega, hok.1, fun e he => by have := le_sumArgs a1 e he; omega⟩
      have hrp := refPut_ev a1 hin (by omega) (by omega)
      have as1 := as_ev a1 (by omega)
      have hl0 : a0.data.toList.length = a0.size := by simp
      have hre := refParse_ev a0 (by omega)
      have hS := same_true _ _ true (short_parse a0.data.toList (by omega)) (same_self ((parseL a0.data.toList).map cvE) true)
      have h5 : Ev (fun k => (hatstandref3_Same.f k ((parseL a0.data.toList).map cvE) ((parseL a0.data.toList).map cvE) true).bind fun t255 => (if t255 = true then (if (putF a1).1.toList = (putF a1).1.toList then (some ((putF a1).2 == (putF a1).2)) else (some false)) else (some false))) true := by
        refine Ev.bind hS (Ev.congr (fun k => ?_) (Ev.now true))
        rw [if_pos rfl, if_pos rfl]
        simp
      have h4 := parse_as a0 (by omega) (f := fun k t => (hatstandref3_Parse.f k a0).bind fun t252 => ((hatstandref3_Same.f k t t252 true).bind fun t255 => (if t255 = true then (if (putF a1).1.toList = (putF a1).1.toList then (some ((putF a1).2 == (putF a1).2)) else (some false)) else (some false)))) (r := true) (Ev.bind hre h5)
      have h3 : Ev (fun k => (hatstandlaw3_as.f k a1).bind fun t241 => ((hatstandref3_Put.f k t241).bind fun bt244 => ((glyph_Parse.f a0).bind fun t246 => ((hatstandlaw3_as.f k t246).bind fun t249 => ((hatstandref3_Parse.f k a0).bind fun t252 => ((hatstandref3_Same.f k t249 t252 true).bind fun t255 => (if t255 = true then (if (putF a1).1.toList = bt244.1.toList then (some ((putF a1).2 == bt244.2)) else (some false)) else (some false)))))))) true :=
        Ev.bind as1 (Ev.bind hrp h4)
      refine Ev.step (fun k => ?_) h3
      rw [hatstandlaw3_GlyphTells.l0, if_neg (by omega), if_neg hbig, hput]
      simp only [Option.bind_some]
  have loop : ∀ (m i : Nat), i + m = a1.length → Ev (fun k => hatstandlaw3_GlyphTells.l0 k a0 a1 (sumArgs (a1.take i) : Nat) (i : Int)) true := by
    intro m
    induction m with
    | zero =>
      intro i hi
      have hi' : i = a1.length := by omega
      subst hi'
      rw [List.take_length]
      exact last
    | succ m ih =>
      intro i hi
      have hil : i < a1.length := by omega
      have hs : sumArgs (a1.take (i + 1)) = sumArgs (a1.take i) + (a1.getD i z33).f1.length := by
        have e : a1.getD i z33 = a1[i] := by simp [List.getD, List.getElem?_eq_getElem hil]
        rw [List.take_add_one, List.getElem?_eq_getElem hil, e]
        unfold sumArgs
        rw [List.map_append, List.sum_append]
        rfl
      have hb := hsumle (a1.take i) (fun e he => (w1 e (List.mem_of_mem_take he)).len)
      rw [List.length_take] at hb
      have h1 := hlen i
      have h2 : 140737488351232 * min i a1.length ≤ 140737488351232 * 100 := Nat.mul_le_mul_left _ (by omega)
      refine Ev.step (fun k => ?_) (ih (i + 1) (by omega))
      have er : rd_T33 a1 (i : Int) = a1.getD i z33 := rfl
      rw [hatstandlaw3_GlyphTells.l0, if_pos (by omega), if_pos (by omega), er, wrap64_in ((i : Int) + 1) (by omega), wrap64_in _ (by omega), hs]
      rfl
  have main : Ev (fun k => hatstandlaw3_GlyphTells.j0 k a0 a1 true false) true := Ev.step (fun k => by rw [hatstandlaw3_GlyphTells.j0, if_neg (by simp)]; rfl) (loop a1.length 0 (Nat.zero_add _))
  refine Ev.rounds (Ev.congr (fun k => ?_) main)
  simp only [hatstandlaw3_GlyphTells.f, hatstandlaw3_shown.f, Option.bind_some, if_true]
  rw [if_neg g0, show decide ((a1.length : Int) > 100) = false from decide_eq_false g1]
end Go.Proofs.YtcldjdngfmakbaaDoor.G

/-
  Plain laws: a text's runes, part by part; the entries of a text with a blank in it.
-/
import Derived.Test.YtcldjdngfmakbaaDoorParse
import Derived.Lib.MapLaws
import Derived.Lib.TrimAscii
namespace Go.Proofs.YtcldjdngfmakbaaDoor.G
open Go.RowKit Go.Proofs.YtcldjdngfmakbaaDoor Go.Proofs.YtcldjdngfmakbaaDoorW.PrintWords Go.Lib
set_option linter.unusedVariables false
set_option linter.unusedSimpArgs false

/-! ### runes of a list of bytes -/
def rlF : Nat → Nat → List UInt8 → List (Nat × Int)
  | 0, _, _ => []
  | n + 1, pos, l => if l = [] then [] else (pos, ((decodeL l).1 : Int)) :: rlF n (pos + (decodeL l).2) (l.drop (decodeL l).2)
def rl (pos : Nat) (l : List UInt8) : List (Nat × Int) := rlF l.length pos l

theorem rlF_fuel : ∀ (n m pos : Nat) (l : List UInt8), l.length ≤ n → l.length ≤ m → rlF n pos l = rlF m pos l
  | 0, m, pos, l, hn, _ => by
    have e : l = [] := List.length_eq_zero_iff.1 (by omega)
    subst e
    cases m <;> simp [rlF]
  | n + 1, 0, pos, l, _, hm => by
    have e : l = [] := List.length_eq_zero_iff.1 (by omega)
    subst e
    simp [rlF]
  | n + 1, m + 1, pos, l, hn, hm => by
    by_cases e : l = []
    · simp [rlF, e]
    · have hw := decodeL_width l
      have hp := List.length_pos_iff.2 e
      rw [rlF, rlF, if_neg e, if_neg e, rlF_fuel n m _ _ (by rw [List.length_drop]; omega) (by rw [List.length_drop]; omega)]
theorem rl_nil (pos : Nat) : rl pos [] = [] := rfl
theorem rl_step (pos : Nat) (l : List UInt8) (h : l ≠ []) : rl pos l = (pos, ((decodeL l).1 : Int)) :: rl (pos + (decodeL l).2) (l.drop (decodeL l).2) := by
  have hp := List.length_pos_iff.2 h
  have hw := decodeL_width l
  obtain ⟨n, hn⟩ : ∃ n, l.length = n + 1 := ⟨l.length - 1, by omega⟩
  unfold rl
  rw [hn, rlF, if_neg h, rlF_fuel n _ _ _ (by rw [List.length_drop]; omega) (Nat.le_refl _)]

theorem runesFrom_rl (s : ByteArray) : ∀ (fuel pos : Nat), runesFrom s fuel pos = rlF fuel pos (s.data.toList.drop pos)
  | 0, pos => rfl
  | f + 1, pos => by
    have hs : s.data.toList.length = s.size := by simp
    by_cases h : pos < s.size
    · have hne : s.data.toList.drop pos ≠ [] := fun e => by
        have := congrArg List.length e
        rw [List.length_drop] at this
        simp at this
        omega
      rw [runesFrom_step _ _ _ h, rlF, if_neg hne, decodeL_drop, runesFrom_rl s f, List.drop_drop]
    · have e : s.data.toList.drop pos = [] := List.drop_eq_nil_of_le (by omega)
      rw [runesFrom_end _ _ _ h, rlF, if_pos e]
theorem runesOf_rl (s : ByteArray) : runesOf s = rl 0 s.data.toList := by
  unfold runesOf rl
  rw [runesFrom_rl, List.drop_zero]
  congr 1

/-! ### what follows does not matter, where it begins with no continuation byte -/
set_option maxHeartbeats 1000000 in
theorem decodeL_pre (a : List UInt8) (c : UInt8) (b : List UInt8) (ha : a ≠ []) (hc : c.toNat / 64 ≠ 2) : decodeL (a ++ c :: b) = decodeL a := by
  rw [decodeL_N, decodeL_N]
  rcases a with _ | ⟨x0, _ | ⟨x1, _ | ⟨x2, _ | ⟨x3, t⟩⟩⟩⟩
  all_goals first
    | exact absurd rfl ha
    | simp [decodeN, hc]

theorem decodeL_one (c : UInt8) (b : List UInt8) (h : c.toNat < 128) : decodeL (c :: b) = (c.toNat, 1) := decodeL_ascii c b h

theorem rl_app : ∀ (n : Nat) (a : List UInt8) (pos : Nat) (c : UInt8) (b : List UInt8), a.length ≤ n → c.toNat / 64 ≠ 2 → rl pos (a ++ c :: b) = rl pos a ++ rl (pos + a.length) (c :: b)
  | n, [], pos, c, b, _, hc => by simp [rl_nil]
  | 0, x :: a, pos, c, b, h, _ => by simp at h
  | n + 1, x :: a, pos, c, b, h, hc => by
    have hne : x :: a ≠ [] := by simp
    have hw := decodeL_width (x :: a)
    have hle := decodeL_le (x :: a) hne
    rw [rl_step pos (x :: a ++ c :: b) (by simp), decodeL_pre _ _ _ hne hc, rl_step pos (x :: a) hne, List.drop_append_of_le_length hle, List.cons_append,
      rl_app n _ _ c b (by rw [List.length_drop, List.length_cons] at *; omega) hc]
    have e : pos + (decodeL (x :: a)).2 + ((x :: a).drop (decodeL (x :: a)).2).length = pos + (x :: a).length := by
      rw [List.length_drop]
      omega
    rw [e]
theorem rl_cons_ascii (pos : Nat) (c : UInt8) (b : List UInt8) (h : c.toNat < 128) : rl pos (c :: b) = (pos, (c.toNat : Int)) :: rl (pos + 1) b := by
  rw [rl_step _ _ (by simp), decodeL_one c b h]
  rfl
theorem rl_shift : ∀ (n : Nat) (pos d : Nat) (l : List UInt8), l.length ≤ n → rl (pos + d) l = (rl pos l).map (fun p => (p.1 + d, p.2))
  | n, pos, d, [], _ => rfl
  | 0, pos, d, x :: l, h => by simp at h
  | n + 1, pos, d, x :: l, h => by
    have hne : x :: l ≠ [] := by simp
    have hw := decodeL_width (x :: l)
    rw [rl_step _ _ hne, rl_step pos _ hne, List.map_cons, ← rl_shift n _ d _ (by rw [List.length_drop, List.length_cons] at *; omega)]
    congr 2
    omega

/-! ### the fold, behind entries that are shut; moved -/
def shiftE (d : Nat) (e : S33) : S33 := ⟨e.f0, e.f1, e.f2, e.f3 + d⟩
def okS (st : PSt) : Prop := st.opn = true → st.es ≠ []
def pre (E : List S33) (st : PSt) : PSt := ⟨E ++ st.es, st.txt, st.opn⟩
def mv (d : Nat) (st : PSt) : PSt := ⟨st.es.map (shiftE d), st.txt, st.opn⟩

theorem closeF_pre (E es : List S33) (txt : List Int) (opn : Bool) (h : opn = true → es ≠ []) : closeF (E ++ es) txt opn = E ++ closeF es txt opn := by
  unfold closeF
  cases opn with
  | false => rfl
  | true =>
    have hp := List.length_pos_iff.2 (h rfl)
    rw [if_pos rfl, if_pos rfl, List.length_append, List.set_append, if_neg (by omega)]
    congr 1
    have e : E.length + es.length - 1 - E.length = es.length - 1 := by omega
    rw [e]
    congr 2
    simp only [List.getD_eq_getElem?_getD]
    rw [List.getElem?_append_right (by omega), e]
theorem closeF_ne (es : List S33) (txt : List Int) (opn : Bool) : closeF es txt opn = [] ↔ es = [] := by
  rw [← List.length_eq_zero_iff, closeF_length, List.length_eq_zero_iff]
theorem stepP_ok (st : PSt) (p : Nat × Int) (h : okS st) : okS (stepP st p) := by
  unfold stepP
  split
  · intro h1; cases h1
  · split
    · exact h
    · intro _; simp
theorem stepP_pre (E : List S33) (st : PSt) (p : Nat × Int) (h : okS st) : stepP (pre E st) p = pre E (stepP st p) := by
  unfold stepP
  by_cases hb : isBlank p.2 = true
  · rw [if_pos hb, if_pos hb]
    simp only [pre]
    rw [closeF_pre _ _ _ _ h]
  · rw [if_neg hb, if_neg hb]
    by_cases hn : st.opn = true ∧ isNum p.2 = true
    · rw [if_pos hn, if_pos (show (pre E st).opn = true ∧ isNum p.2 = true from hn)]
      rfl
    · rw [if_neg hn, if_neg (show ¬ ((pre E st).opn = true ∧ isNum p.2 = true) from hn)]
      simp only [pre]
      rw [closeF_pre _ _ _ _ h, List.append_assoc]
theorem fold_pre (E : List S33) : ∀ (ps : List (Nat × Int)) (st : PSt), okS st → ps.foldl stepP (pre E st) = pre E (ps.foldl stepP st)
  | [], st, _ => rfl
  | p :: ps, st, h => by rw [List.foldl_cons, List.foldl_cons, stepP_pre E st p h, fold_pre E ps _ (stepP_ok st p h)]
theorem fold_ok : ∀ (ps : List (Nat × Int)) (st : PSt), okS st → okS (ps.foldl stepP st)
  | [], st, h => h
  | p :: ps, st, h => fold_ok ps _ (stepP_ok st p h)
theorem endP_pre (E : List S33) (st : PSt) (h : okS st) : endP (pre E st) = E ++ endP st := closeF_pre _ _ _ _ h

theorem shutE_mv (d : Nat) (e : S33) (txt : List Int) : shutE (shiftE d e) txt = shiftE d (shutE e txt) := by
  unfold shutE shiftE setA
  split <;> rfl
theorem closeF_mv (d : Nat) (es : List S33) (txt : List Int) (opn : Bool) (h : opn = true → es ≠ []) : closeF (es.map (shiftE d)) txt opn = (closeF es txt opn).map (shiftE d) := by
  unfold closeF
  cases opn with
  | false => rfl
  | true =>
    have hp := List.length_pos_iff.2 (h rfl)
    rw [if_pos rfl, if_pos rfl, List.length_map, List.map_set, ← shutE_mv]
    congr 2
    simp only [List.getD_eq_getElem?_getD, List.getElem?_map]
    rw [List.getElem?_eq_getElem (by omega)]
    rfl
theorem stepP_mv (d : Nat) (st : PSt) (p : Nat × Int) (h : okS st) : stepP (mv d st) (p.1 + d, p.2) = mv d (stepP st p) := by
  unfold stepP
  by_cases hb : isBlank p.2 = true
  · rw [if_pos hb, if_pos hb]
    simp only [mv]
    rw [closeF_mv _ _ _ _ h]
  · rw [if_neg hb, if_neg hb]
    by_cases hn : st.opn = true ∧ isNum p.2 = true
    · rw [if_pos hn, if_pos (show (mv d st).opn = true ∧ isNum p.2 = true from hn)]
      rfl
    · rw [if_neg hn, if_neg (show ¬ ((mv d st).opn = true ∧ isNum p.2 = true) from hn)]
      simp only [mv]
      rw [closeF_mv _ _ _ _ h, List.map_append]
      simp [newE, shiftE]
theorem fold_mv (d : Nat) : ∀ (ps : List (Nat × Int)) (st : PSt), okS st → (ps.map (fun p => (p.1 + d, p.2))).foldl stepP (mv d st) = mv d (ps.foldl stepP st)
  | [], st, _ => rfl
  | p :: ps, st, h => by rw [List.map_cons, List.foldl_cons, List.foldl_cons, stepP_mv d st p h, fold_mv d ps _ (stepP_ok st p h)]

/-! ### the entries of a list of bytes -/
def st0 : PSt := ⟨[], [], false⟩
theorem okS0 : okS st0 := fun h => by cases h
def parseL (l : List UInt8) : List S33 := endP ((rl 0 l).foldl stepP st0)
theorem parseF_L (s : ByteArray) : parseF s = parseL s.data.toList := by
  unfold parseF parseL
  rw [runesOf_rl]
  rfl
theorem parseL_at (d : Nat) (l : List UInt8) : endP ((rl d l).foldl stepP st0) = (parseL l).map (shiftE d) := by
  have h := fold_mv d (rl 0 l) st0 okS0
  have e : rl d l = (rl 0 l).map (fun p => (p.1 + d, p.2)) := by
    have := rl_shift l.length 0 d l (Nat.le_refl _)
    rwa [Nat.zero_add] at this
  rw [e]
  have e0 : mv d st0 = st0 := rfl
  rw [e0] at h
  rw [h]
  exact closeF_mv _ _ _ _ (fold_ok _ _ okS0)

theorem blank_fold (st : PSt) (p : Nat × Int) (h : isBlank p.2 = true) : stepP st p = pre (endP st) st0 := by
  unfold stepP
  rw [if_pos h]
  simp [pre, st0, endP]
/-- A blank in a text: its entries are those of both parts. -/
theorem parseL_blank (a : List UInt8) (c : UInt8) (b : List UInt8) (h1 : c.toNat < 128) (h2 : isBlank (c.toNat : Int) = true) : parseL (a ++ c :: b) = parseL a ++ (parseL b).map (shiftE (a.length + 1)) := by
  unfold parseL
  rw [rl_app a.length a 0 c b (Nat.le_refl _) (by omega), rl_cons_ascii _ _ _ h1, List.foldl_append, List.foldl_cons, blank_fold _ _ h2, fold_pre _ _ _ okS0, endP_pre _ _ (fold_ok _ _ okS0), parseL_at (0 + a.length + 1) b, Nat.zero_add]
  rfl
theorem parseL_nil : parseL [] = [] := rfl
end Go.Proofs.YtcldjdngfmakbaaDoor.G

/-
  Plain laws: how many entries a text has, where they stand, how many numbers they have.
-/
import Derived.Test.YtcldjdngfmakbaaDoorPureA
import Derived.Test.YtcldjdngfmakbaaDoorPureB
namespace Go.Proofs.YtcldjdngfmakbaaDoor.G
open Go.RowKit Go.Proofs.YtcldjdngfmakbaaDoor Go.Proofs.YtcldjdngfmakbaaDoorW.PrintWords Go.Lib
set_option linter.unusedVariables false
set_option linter.unusedSimpArgs false

/-! ### how many entries, where they stand, how many numbers they have -/
theorem stepP_len (st : PSt) (p : Nat × Int) : (stepP st p).es.length ≤ st.es.length + 1 := by
  unfold stepP
  split
  · simp [closeF_length]
  · split
    · simp
    · simp [closeF_length]
theorem fold_len : ∀ (ps : List (Nat × Int)) (st : PSt), (ps.foldl stepP st).es.length ≤ st.es.length + ps.length
  | [], st => Nat.le_refl _
  | p :: ps, st => by
    have h1 := stepP_len st p
    have h2 := fold_len ps (stepP st p)
    rw [List.foldl_cons, List.length_cons]
    omega
theorem rlF_len : ∀ (n pos : Nat) (l : List UInt8), (rlF n pos l).length ≤ n
  | 0, _, _ => Nat.le_refl _
  | n + 1, pos, l => by
    rw [rlF]
    split
    · simp
    · have := rlF_len n (pos + (decodeL l).2) (l.drop (decodeL l).2)
      rw [List.length_cons]
      omega
theorem rl_len (pos : Nat) (l : List UInt8) : (rl pos l).length ≤ l.length := rlF_len _ _ _
theorem parseL_len (l : List UInt8) : (parseL l).length ≤ l.length := by
  unfold parseL endP
  rw [closeF_length]
  have h1 := fold_len (rl 0 l) st0
  have h2 := rl_len 0 l
  have h3 : st0.es.length = 0 := rfl
  omega

/-- Each entry has a property that opening one, and shutting one, gives. -/
theorem closeF_all (P : S33 → Prop) (N : Nat) (hs : ∀ e txt, txt.length ≤ N → P e → P (shutE e txt)) (es : List S33) (txt : List Int) (opn : Bool) (ht : txt.length ≤ N) (h : ∀ e ∈ es, P e) (hne : opn = true → es ≠ []) : ∀ e ∈ closeF es txt opn, P e := by
  intro e he
  unfold closeF at he
  split at he
  · rename_i ho
    rcases List.mem_or_eq_of_mem_set he with h1 | h1
    · exact h e h1
    · rw [h1]
      have hp := List.length_pos_iff.2 (hne ho)
      refine hs _ _ ht (h _ ?_)
      rw [List.getD_eq_getElem?_getD, List.getElem?_eq_getElem (by omega)]
      exact List.getElem_mem _
  · exact h e he
theorem fold_all (P : S33 → Prop) (N : Nat) (hs : ∀ e txt, txt.length ≤ N → P e → P (shutE e txt)) : ∀ (ps : List (Nat × Int)) (st : PSt), okS st → st.txt.length + ps.length ≤ N → (∀ p ∈ ps, P (newE p.2 p.1)) → (∀ e ∈ st.es, P e) → (∀ e ∈ endP (ps.foldl stepP st), P e)
  | [], st, ho, ht, hn, h => closeF_all P N hs _ _ _ (by simpa using ht) h ho
  | p :: ps, st, ho, ht, hn, h => by
    rw [List.length_cons] at ht
    rw [List.foldl_cons]
    have hc := closeF_all P N hs st.es st.txt st.opn (by omega) h ho
    refine fold_all P N hs ps (stepP st p) (stepP_ok st p ho) ?_ (fun q hq => hn q (List.mem_cons_of_mem _ hq)) ?_
    · unfold stepP
      split
      · simp; omega
      · split
        · rw [List.length_append, List.length_singleton]; omega
        · simp; omega
    · intro e he
      unfold stepP at he
      split at he
      · exact hc e he
      · split at he
        · exact h e he
        · rcases List.mem_append.1 he with h1 | h1
          · exact hc e h1
          · rw [List.mem_singleton.1 h1]
            exact hn _ (List.mem_cons_self ..)

theorem numsFrom_len : ∀ (ps : List ByteArray) (l : List Int), numsFrom ps = some l → l.length = ps.length
  | [], l, h => by
    rw [numsFrom] at h
    cases h
    rfl
  | x :: r, l, h => by
    rw [numsFrom] at h
    split at h
    · cases h
    · cases hr : numsFrom r with
      | none => rw [hr] at h; cases h
      | some q =>
        rw [hr] at h
        cases h
        rw [List.length_cons, List.length_cons, numsFrom_len r q hr]
theorem numsOf_len (s : ByteArray) : (numsOf s).1.length ≤ s.size + 1 := by
  unfold numsOf
  split
  · simp
  · split
    · rename_i l h
      have h1 := numsFrom_len _ _ h
      have h2 := pieces_le s
      simp only
      omega
    · simp
theorem shutE_args (e : S33) (txt : List Int) : (shutE e txt).f1.length ≤ 4 * txt.length + 1 := by
  unfold shutE setA
  split
  · simp
  · have h1 := numsOf_len (runesBytes txt)
    have h2 := runesBytes_size_le txt
    simp only
    omega
theorem parseL_args (l : List UInt8) : ∀ e ∈ parseL l, e.f1.length ≤ 4 * l.length + 1 := by
  refine fold_all (fun e => e.f1.length ≤ 4 * l.length + 1) l.length (fun e txt ht _ => ?_) _ _ okS0 ?_ (fun p _ => by simp [newE]) (fun e he => by cases he)
  · have := shutE_args e txt
    omega
  · have := rl_len 0 l
    have h0 : st0.txt.length = 0 := rfl
    omega
theorem short_parse (l : List UInt8) (h : l.length < 100000000) : Short ((parseL l).map cvE) := by
  refine ⟨by have := parseL_len l; rw [List.length_map]; omega, fun x hx => ?_⟩
  obtain ⟨e, he, rfl⟩ := List.mem_map.1 hx
  have := parseL_args l e he
  show e.f1.length < _
  omega

/-- Where each stands. -/
theorem rlF_at : ∀ (n pos : Nat) (l : List UInt8), ∀ p ∈ rlF n pos l, pos ≤ p.1 ∧ p.1 < pos + l.length
  | 0, _, _, p, h => by cases h
  | n + 1, pos, l, p, h => by
    rw [rlF] at h
    split at h
    · cases h
    · rename_i hne
      have hp := List.length_pos_iff.2 hne
      have hw := decodeL_width l
      have hle := decodeL_le l hne
      rcases List.mem_cons.1 h with rfl | h1
      · exact ⟨Nat.le_refl _, by omega⟩
      · have := rlF_at n _ _ p h1
        rw [List.length_drop] at this
        omega
theorem shutE_at (e : S33) (txt : List Int) : (shutE e txt).f3 = e.f3 := by
  unfold shutE setA
  split <;> rfl
theorem parseL_at_lt (l : List UInt8) : ∀ e ∈ parseL l, 0 ≤ e.f3 ∧ e.f3 < l.length := by
  refine fold_all (fun e => 0 ≤ e.f3 ∧ e.f3 < l.length) l.length (fun e txt ht h => by rw [shutE_at]; exact h) _ _ okS0 ?_ (fun p hp => ?_) (fun e he => by cases he)
  · have := rl_len 0 l
    have h0 : st0.txt.length = 0 := rfl
    omega
  · have := rlF_at _ _ _ p hp
    simp only [newE]
    omega

/-! ### glyph.Parse and as, together -/
theorem parse_as {β : Type} (s : ByteArray) (hs : s.size ≤ 1000000) {f : Nat → List S29 → Option β} {r : β} (h : Ev (fun k => f k ((parseL s.data.toList).map cvE)) r) :
    Ev (fun k => (glyph_Parse.f s).bind fun t => (hatstandlaw3_as.f k t).bind (f k)) r := by
  refine Ev.congr (fun k => ?_) (Ev.bind (as_ev (parseL s.data.toList) (by have := parseL_len s.data.toList; simp at this; omega)) h)
  unfold glyph_Parse.f
  rw [if_pos (by omega), parseF_L]
  rfl

end Go.Proofs.YtcldjdngfmakbaaDoor.G

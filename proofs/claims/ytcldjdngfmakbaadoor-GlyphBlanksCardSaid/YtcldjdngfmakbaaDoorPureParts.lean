/-
  Plain law: the entries of two texts, one behind the other, with a blank between, are those of both.
-/
import Derived.Test.YtcldjdngfmakbaaDoorPureA
import Derived.Test.YtcldjdngfmakbaaDoorPureB
import Derived.Test.YtcldjdngfmakbaaDoorG3
namespace Go.Proofs.YtcldjdngfmakbaaDoor.G
open Go.RowKit Go.Proofs.YtcldjdngfmakbaaDoor Go.Proofs.YtcldjdngfmakbaaDoorW.PrintWords Go.Lib
set_option linter.unusedVariables false
set_option linter.unusedSimpArgs false

/-! ### how many entries, where they stand, how many numbers they have -/
theorem stepP_len (st : PSt) (p : Nat × Int) : (stepP st p).es.length ≤ st.es.length + 1 := by
  unfold stepP
  split
  · simp [closeF_length]
  · split
    · simp
    · simp [closeF_length]
theorem fold_len : ∀ (ps : List (Nat × Int)) (st : PSt), (ps.foldl stepP st).es.length ≤ st.es.length + ps.length
  | [], st => Nat.le_refl _
  | p :: ps, st => by
    have h1 := stepP_len st p
    have h2 := fold_len ps (stepP st p)
    rw [List.foldl_cons, List.length_cons]
    omega
theorem rlF_len : ∀ (n pos : Nat) (l : List UInt8), (rlF n pos l).length ≤ n
  | 0, _, _ => Nat.le_refl _
  | n + 1, pos, l => by
    rw [rlF]
    split
    · simp
    · have := rlF_len n (pos + (decodeL l).2) (l.drop (decodeL l).2)
      rw [List.length_cons]
      omega
theorem rl_len (pos : Nat) (l : List UInt8) : (rl pos l).length ≤ l.length := rlF_len _ _ _
theorem parseL_len (l : List UInt8) : (parseL l).length ≤ l.length := by
  unfold parseL endP
  rw [closeF_length]
  have h1 := fold_len (rl 0 l) st0
  have h2 := rl_len 0 l
  have h3 : st0.es.length = 0 := rfl
  omega

/-- Each entry has a property that opening one, and shutting one, gives. -/
theorem closeF_all (P : S33 → Prop) (N : Nat) (hs : ∀ e txt, txt.length ≤ N → P e → P (shutE e txt)) (es : List S33) (txt : List Int) (opn : Bool) (ht : txt.length ≤ N) (h : ∀ e ∈ es, P e) (hne : opn = true → es ≠ []) : ∀ e ∈ closeF es txt opn, P e := by
  intro e he
  unfold closeF at he
  split at he
  · rename_i ho
    rcases List.mem_or_eq_of_mem_set he with h1 | h1
    · exact h e h1
    · rw [h1]
      have hp := List.length_pos_iff.2 (hne ho)
      refine hs _ _ ht (h _ ?_)
      rw [List.getD_eq_getElem?_getD, List.getElem?_eq_getElem (by omega)]
      exact List.getElem_mem _
  · exact h e he
theorem fold_all (P : S33 → Prop) (N : Nat) (hs : ∀ e txt, txt.length ≤ N → P e → P (shutE e txt)) : ∀ (ps : List (Nat × Int)) (st : PSt), okS st → st.txt.length + ps.length ≤ N → (∀ p ∈ ps, P (newE p.2 p.1)) → (∀ e ∈ st.es, P e) → (∀ e ∈ endP (ps.foldl stepP st), P e)
  | [], st, ho, ht, hn, h => closeF_all P N hs _ _ _ (by simpa using ht) h ho
  | p :: ps, st, ho, ht, hn, h => by
    rw [List.length_cons] at ht
    rw [List.foldl_cons]
    have hc := closeF_all P N hs st.es st.txt st.opn (by omega) h ho
    refine fold_all P N hs ps (stepP st p) (stepP_ok st p ho) ?_ (fun q hq => hn q (List.mem_cons_of_mem _ hq)) ?_
    · unfold stepP
      split
      · simp; omega
      · split
        · rw [List.length_append, List.length_singleton]; omega
        · simp; omega
    · intro e he
      unfold stepP at he
      split at he
      · exact hc e he
      · split at he
        · exact h e he
        · rcases List.mem_append.1 he with h1 | h1
          · exact hc e h1
          · rw [List.mem_singleton.1 h1]
            exact hn _ (List.mem_cons_self ..)

theorem numsFrom_len : ∀ (ps : List ByteArray) (l : List Int), numsFrom ps = some l → l.length = ps.length
  | [], l, h => by
    rw [numsFrom] at h
    cases h
    rfl
  | x :: r, l, h => by
    rw [numsFrom] at h
    split at h
    · cases h
    · cases hr : numsFrom r with
      | none => rw [hr] at h; cases h
      | some q =>
        rw [hr] at h
        cases h
        rw [List.length_cons, List.length_cons, numsFrom_len r q hr]
theorem numsOf_len (s : ByteArray) : (numsOf s).1.length ≤ s.size + 1 := by
  unfold numsOf
  split
  · simp
  · split
    · rename_i l h
      have h1 := numsFrom_len _ _ h
      have h2 := pieces_le s
      simp only
      omega
    · simp
theorem shutE_args (e : S33) (txt : List Int) : (shutE e txt).f1.length ≤ 4 * txt.length + 1 := by
  unfold shutE setA
  split
  · simp
  · have h1 := numsOf_len (runesBytes txt)
    have h2 := runesBytes_size_le txt
    simp only
    omega
theorem parseL_args (l : List UInt8) : ∀ e ∈ parseL l, e.f1.length ≤ 4 * l.length + 1 := by
  refine fold_all (fun e => e.f1.length ≤ 4 * l.length + 1) l.length (fun e txt ht _ => ?_) _ _ okS0 ?_ (fun p _ => by simp [newE]) (fun e he => by cases he)
  · have := shutE_args e txt
    omega
  · have := rl_len 0 l
    have h0 : st0.txt.length = 0 := rfl
    omega
theorem short_parse (l : List UInt8) (h : l.length < 100000000) : Short ((parseL l).map cvE) := by
  refine ⟨by have := parseL_len l; rw [List.length_map]; omega, fun x hx => ?_⟩
  obtain ⟨e, he, rfl⟩ := List.mem_map.1 hx
  have := parseL_args l e he
  show e.f1.length < _
  omega

/-- Where each stands. -/
theorem rlF_at : ∀ (n pos : Nat) (l : List UInt8), ∀ p ∈ rlF n pos l, pos ≤ p.1 ∧ p.1 < pos + l.length
  | 0, _, _, p, h => by cases h
  | n + 1, pos, l, p, h => by
    rw [rlF] at h
    split at h
    · cases h
    · rename_i hne
      have hp := List.length_pos_iff.2 hne
      have hw := decodeL_width l
      have hle := decodeL_le l hne
      rcases List.mem_cons.1 h with rfl | h1
      · exact ⟨Nat.le_refl _, by omega⟩
      · have := rlF_at n _ _ p h1
        rw [List.length_drop] at this
        omega
theorem shutE_at (e : S33) (txt : List Int) : (shutE e txt).f3 = e.f3 := by
  unfold shutE setA
  split <;> rfl
theorem parseL_at_lt (l : List UInt8) : ∀ e ∈ parseL l, 0 ≤ e.f3 ∧ e.f3 < l.length := by
  refine fold_all (fun e => 0 ≤ e.f3 ∧ e.f3 < l.length) l.length (fun e txt ht h => by rw [shutE_at]; exact h) _ _ okS0 ?_ (fun p hp => ?_) (fun e he => by cases he)
  · have := rl_len 0 l
    have h0 : st0.txt.length = 0 := rfl
    omega
  · have := rlF_at _ _ _ p hp
    simp only [newE]
    omega

/-! ### glyph.Parse and as, together -/
theorem parse_as {β : Type} (s : ByteArray) (hs : s.size ≤ 1000000) {f : Nat → List S29 → Option β} {r : β} (h : Ev (fun k => f k ((parseL s.data.toList).map cvE)) r) :
    Ev (fun k => (glyph_Parse.f s).bind fun t => (hatstandlaw3_as.f k t).bind (f k)) r := by
  refine Ev.congr (fun k => ?_) (Ev.bind (as_ev (parseL s.data.toList) (by have := parseL_len s.data.toList; simp at this; omega)) h)
  unfold glyph_Parse.f
  rw [if_pos (by omega), parseF_L]
  rfl

/-! ### the law -/
theorem parts_loop (x0 : ByteArray) (B A C : List S29) (hx : x0.size ≤ 1000000) (hB : B.length ≤ 1000000) (hat : ∀ e ∈ B, 0 ≤ e.f3 ∧ e.f3 ≤ 1000000) {r : Bool} (hr : Ev (fun k => hatstandlaw3_GlyphParts.l0 k x0 A (B.map (fun e => ⟨e.f0, e.f1, e.f2, e.f3 + (x0.size + 1 : Nat)⟩)) C (B.length : Int)) r) :
    ∀ (m i : Nat) (X : List S29), i + m = B.length → X = (B.take i).map (fun e => ⟨e.f0, e.f1, e.f2, e.f3 + (x0.size + 1 : Nat)⟩) ++ B.drop i → Ev (fun k => hatstandlaw3_GlyphParts.l0 k x0 A X C (i : Int)) r
  | 0, i, X, hm, hX => by
    have hi : i = B.length := by omega
    subst hi
    rw [hX, List.take_length, List.drop_length, List.append_nil]
    exact hr
  | m + 1, i, X, hm, hX => by
    have hlen : X.length = B.length := by rw [hX]; simp; omega
    have hget : X[i]? = some (B[i]'(by omega)) := by
      rw [hX, List.getElem?_append_right (by simp; omega)]
      simp [List.getElem?_drop, show min i B.length = i by omega]
    have hrd : rd_T29 X (i : Int) = B[i]'(by omega) := by
      unfold rd_T29
      rw [Int.toNat_natCast, List.getD_eq_getElem?_getD, hget]
      rfl
    have hb := hat _ (List.getElem_mem (show i < B.length by omega))
    refine Ev.step (fun k => ?_) (parts_loop x0 B A C hx hB hat hr m (i + 1) (X.set i ⟨(B[i]'(by omega)).f0, (B[i]'(by omega)).f1, (B[i]'(by omega)).f2, (B[i]'(by omega)).f3 + (x0.size + 1 : Nat)⟩) (by omega) ?_)
    · rw [hatstandlaw3_GlyphParts.l0, if_pos (by omega), if_pos (by omega), hrd, wrap64_in ((B[i]'(by omega)).f3 + (x0.size : Int)) (by omega), wrap64_in ((B[i]'(by omega)).f3 + (x0.size : Int) + 1) (by omega), wrap64_in ((i : Int) + 1) (by omega), Int.toNat_natCast]
      have e2 : (B[i]'(by omega)).f3 + (x0.size : Int) + 1 = (B[i]'(by omega)).f3 + ((x0.size + 1 : Nat) : Int) := by omega
      rw [e2]
      rfl
    · rw [hX, List.set_append, if_neg (by simp; omega)]
      have e1 : i - ((B.take i).map (fun e => (⟨e.f0, e.f1, e.f2, e.f3 + (x0.size + 1 : Nat)⟩ : S29))).length = 0 := by simp; omega
      rw [e1, List.drop_eq_getElem_cons (show i < B.length by omega), List.set_cons_zero, List.take_add_one, List.getElem?_eq_getElem (by omega), List.map_append, List.append_assoc]
      rfl

theorem parts_pure (a0 a1 : ByteArray) (z0 : a0.size ≤ 140737488351232) (z1 : a1.size ≤ 140737488351232) : ∃ k, hatstandlaw3_GlyphParts.f k a0 a1 = some true := by
  by_cases hs : (a0.size : Int) + (a1.size : Int) > 1000
  · have hj : Ev (fun k => hatstandlaw3_GlyphParts.j0 k a0 a1 true true) true := Ev.step (fun k => by rw [hatstandlaw3_GlyphParts.j0, if_pos rfl]) (Ev.now true)
    refine Ev.rounds (Ev.congr (fun k => ?_) hj)
    simp only [hatstandlaw3_GlyphParts.f, hatstandlaw3_shown.f, Option.bind_some, if_true]
    rw [wrap64_in _ (by omega), show decide ((a0.size : Int) + (a1.size : Int) > 1000) = true from decide_eq_true hs]
  have l0 : a0.data.toList.length = a0.size := by simp
  have l1 : a1.data.toList.length = a1.size := by simp
  have d1 : (a0 ++ (⟨#[32]⟩ : ByteArray)).data.toList = a0.data.toList ++ [32] := by simp
  have d2 : ((a0 ++ (⟨#[32]⟩ : ByteArray)) ++ a1).data.toList = a0.data.toList ++ 32 :: a1.data.toList := by simp
  have s0 : (⟨#[32]⟩ : ByteArray).size = 1 := rfl
  have s1 : (a0 ++ (⟨#[32]⟩ : ByteArray)).size = a0.size + 1 := by rw [ByteArray.size_append, s0]
  have hb : isBlank ((32 : UInt8).toNat : Int) = true := by decide +kernel
  have p1 : parseL (a0.data.toList ++ [32]) = parseL a0.data.toList := by
    rw [parseL_blank _ _ _ (by decide) hb, parseL_nil]
    simp
  have p2 := parseL_blank a0.data.toList 32 a1.data.toList (by decide) hb
  obtain ⟨A, hA⟩ : ∃ A, A = (parseL a0.data.toList).map cvE := ⟨_, rfl⟩
  obtain ⟨B, hB⟩ : ∃ B, B = (parseL a1.data.toList).map cvE := ⟨_, rfl⟩
  have hAl : A.length ≤ 1000 := by rw [hA, List.length_map]; have := parseL_len a0.data.toList; omega
  have hBl : B.length ≤ 1000 := by rw [hB, List.length_map]; have := parseL_len a1.data.toList; omega
  have hBat : ∀ e ∈ B, 0 ≤ e.f3 ∧ e.f3 ≤ 1000000 := by
    intro e he
    rw [hB] at he
    obtain ⟨x, hx, rfl⟩ := List.mem_map.1 he
    have := parseL_at_lt _ x hx
    show 0 ≤ x.f3 ∧ x.f3 ≤ 1000000
    omega
  have hC : (parseL (a0.data.toList ++ 32 :: a1.data.toList)).map cvE = A ++ B.map (fun e => ⟨e.f0, e.f1, e.f2, e.f3 + (a0.size + 1 : Nat)⟩) := by
    rw [p2, List.map_append, hA, hB, List.map_map, List.map_map, l0]
    rfl
  have last : Ev (fun k => hatstandlaw3_GlyphParts.l0 k a0 A (B.map (fun e => ⟨e.f0, e.f1, e.f2, e.f3 + (a0.size + 1 : Nat)⟩)) (A ++ B.map (fun e => ⟨e.f0, e.f1, e.f2, e.f3 + (a0.size + 1 : Nat)⟩)) (B.length : Int)) true := by
    have sh1 : Short (A ++ B.map (fun e => ⟨e.f0, e.f1, e.f2, e.f3 + (a0.size + 1 : Nat)⟩)) := by
      rw [← hC]
      exact short_parse _ (by simp; omega)
    have sh2 : Short A := by
      rw [hA]
      exact short_parse _ (by omega)
    have e1 := same_true _ _ true sh1 (same_self (A ++ B.map (fun e => ⟨e.f0, e.f1, e.f2, e.f3 + (a0.size + 1 : Nat)⟩)) true)
    have e2 := same_true _ _ true sh2 (same_self A true)
    have e3 : Ev (fun k => (glyph_Parse.f a0).bind fun t => (hatstandlaw3_as.f k t).bind fun t => (hatstandref3_Same.f k A t true).bind fun t => some t) true :=
      parse_as a0 (by omega) (f := fun k t => (hatstandref3_Same.f k A t true).bind fun t => some t) (by rw [← hA]; exact Ev.bind e2 (Ev.now true))
    refine Ev.step (fun k => ?_) (Ev.bind (f := fun k t => if t = true then ((glyph_Parse.f a0).bind fun t => (hatstandlaw3_as.f k t).bind fun t => (hatstandref3_Same.f k A t true).bind fun t => some t) else some false) e1 (by simpa using e3))
    rw [hatstandlaw3_GlyphParts.l0, if_neg (by simp)]
    simp only [Option.bind_some, List.nil_append, List.length_nil, List.length_map]
    rw [if_pos (by omega), if_pos (by omega)]
  have main : Ev (fun k => hatstandlaw3_GlyphParts.j0 k a0 a1 true false) true := by
    have h3 := parts_loop a0 B A (A ++ B.map (fun e => ⟨e.f0, e.f1, e.f2, e.f3 + (a0.size + 1 : Nat)⟩)) (by omega) (by omega) hBat last B.length 0 B (by omega) rfl
    have c3 : Ev (fun k => (glyph_Parse.f ((a0 ++ (⟨#[32]⟩ : ByteArray)) ++ a1)).bind fun t => (hatstandlaw3_as.f k t).bind fun t => hatstandlaw3_GlyphParts.l0 k a0 A B t 0) true :=
      parse_as _ (by rw [ByteArray.size_append]; omega) (f := fun k t => hatstandlaw3_GlyphParts.l0 k a0 A B t 0) (by rw [d2, hC]; exact h3)
    have c2 : Ev (fun k => (glyph_Parse.f a1).bind fun t => (hatstandlaw3_as.f k t).bind fun t => (glyph_Parse.f ((a0 ++ (⟨#[32]⟩ : ByteArray)) ++ a1)).bind fun t' => (hatstandlaw3_as.f k t').bind fun t' => hatstandlaw3_GlyphParts.l0 k a0 A t t' 0) true :=
      parse_as _ (by omega) (f := fun k t => (glyph_Parse.f ((a0 ++ (⟨#[32]⟩ : ByteArray)) ++ a1)).bind fun t' => (hatstandlaw3_as.f k t').bind fun t' => hatstandlaw3_GlyphParts.l0 k a0 A t t' 0) (by rw [← hB]; exact c3)
    have c1 := parse_as (a0 ++ (⟨#[32]⟩ : ByteArray)) (by omega) (f := fun k s => (glyph_Parse.f a1).bind fun t => (hatstandlaw3_as.f k t).bind fun t => (glyph_Parse.f ((a0 ++ (⟨#[32]⟩ : ByteArray)) ++ a1)).bind fun t' => (hatstandlaw3_as.f k t').bind fun t' => hatstandlaw3_GlyphParts.l0 k a0 s t t' 0) (r := true) (by rw [d1, p1, ← hA]; exact c2)
    refine Ev.step (fun k => ?_) c1
    rw [hatstandlaw3_GlyphParts.j0, if_neg (by simp), if_pos (by omega)]
    simp only [if_pos (show (a0 ++ (⟨#[32]⟩ : ByteArray)).size + a1.size ≤ 9223372036854775807 by omega)]
  refine Ev.rounds (Ev.congr (fun k => ?_) main)
  simp only [hatstandlaw3_GlyphParts.f, hatstandlaw3_shown.f, Option.bind_some, if_true]
  rw [wrap64_in _ (by omega), show decide ((a0.size : Int) + (a1.size : Int) > 1000) = false from decide_eq_false hs]
end Go.Proofs.YtcldjdngfmakbaaDoor.G

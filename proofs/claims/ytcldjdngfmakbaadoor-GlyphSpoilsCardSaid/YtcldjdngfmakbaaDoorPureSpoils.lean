/-
  Plain law: of the entries of a text, each stands behind the one ahead, within the text, and is parsed alone as it is there.
-/
import Derived.Test.YtcldjdngfmakbaaDoorPureP
import Derived.Test.YtcldjdngfmakbaaDoorG4
namespace Go.Proofs.YtcldjdngfmakbaaDoor.G
open Go.RowKit Go.Proofs.YtcldjdngfmakbaaDoor Go.Proofs.YtcldjdngfmakbaaDoorW.PrintWords Go.Lib
set_option linter.unusedVariables false
set_option linter.unusedSimpArgs false

/-! ### a text that is cut where a rune begins -/
set_option maxHeartbeats 1000000 in
theorem decodeN_cut (n m b0 b1 b2 b3 : Nat) (hm : (decodeN n b0 b1 b2 b3).2 ≤ m) : decodeN (min m n) b0 (if 1 < m then b1 else 0) (if 2 < m then b2 else 0) (if 3 < m then b3 else 0) = decodeN n b0 b1 b2 b3 := by
  have q1 : (1 < min m n ∧ (if 1 < m then b1 else 0) / 64 = 2) ↔ (1 < m ∧ 1 < n ∧ b1 / 64 = 2) := by split <;> omega
  have q2 : (2 < min m n ∧ (if 2 < m then b2 else 0) / 64 = 2) ↔ (2 < m ∧ 2 < n ∧ b2 / 64 = 2) := by split <;> omega
  have q3 : (3 < min m n ∧ (if 3 < m then b3 else 0) / 64 = 2) ↔ (3 < m ∧ 3 < n ∧ b3 / 64 = 2) := by split <;> omega
  obtain ⟨p, hp⟩ : ∃ p, decodeN n b0 b1 b2 b3 = p := ⟨_, rfl⟩
  rw [hp] at hm ⊢
  unfold decodeN at hp ⊢
  simp only [q1, q2, q3]
  by_cases c0 : b0 < 128
  · rw [if_pos c0] at hp ⊢
    exact hp
  rw [if_neg c0] at hp ⊢
  by_cases c1 : b0 / 32 = 6 ∧ 1 < n ∧ b1 / 64 = 2
  · rw [if_pos c1] at hp
    by_cases m1 : 1 < m
    · rw [if_pos ⟨c1.1, m1, c1.2⟩, if_pos m1]
      exact hp
    · rw [if_neg (fun h => m1 h.2.1), if_neg (by omega), if_neg (by omega)]
      split at hp
      · rw [← hp] at hm
        simp only at hm
        omega
      · exact hp
  rw [if_neg c1] at hp
  rw [if_neg (fun h => c1 ⟨h.1, h.2.2⟩)]
  by_cases c2 : b0 / 16 = 14 ∧ (1 < n ∧ b1 / 64 = 2) ∧ (2 < n ∧ b2 / 64 = 2)
  · rw [if_pos c2] at hp
    by_cases m2 : 2 < m
    · have e1 : (if 1 < m then b1 else 0) = b1 := if_pos (by omega)
      have e2 : (if 2 < m then b2 else 0) = b2 := if_pos m2
      rw [if_pos ⟨c2.1, ⟨by omega, c2.2.1⟩, m2, c2.2.2⟩, e1, e2]
      exact hp
    · rw [if_neg (fun h => m2 h.2.2.1), if_neg (by omega)]
      split at hp
      · rw [← hp] at hm
        simp only at hm
        omega
      · exact hp
  rw [if_neg c2] at hp
  rw [if_neg (fun h => c2 ⟨h.1, h.2.1.2, h.2.2.2⟩)]
  by_cases c3 : b0 / 8 = 30 ∧ (1 < n ∧ b1 / 64 = 2) ∧ (2 < n ∧ b2 / 64 = 2) ∧ (3 < n ∧ b3 / 64 = 2)
  · rw [if_pos c3] at hp
    by_cases m3 : 3 < m
    · have e1 : (if 1 < m then b1 else 0) = b1 := if_pos (by omega)
      have e2 : (if 2 < m then b2 else 0) = b2 := if_pos (by omega)
      have e3 : (if 3 < m then b3 else 0) = b3 := if_pos m3
      rw [if_pos ⟨c3.1, ⟨by omega, c3.2.1⟩, ⟨by omega, c3.2.2.1⟩, m3, c3.2.2.2⟩, e1, e2, e3]
      exact hp
    · rw [if_neg (fun h => m3 h.2.2.2.1)]
      split at hp
      · rw [← hp] at hm
        simp only at hm
        omega
      · exact hp
  rw [if_neg c3] at hp
  rw [if_neg (fun h => c3 ⟨h.1, h.2.1.2, h.2.2.1.2, h.2.2.2.2⟩)]
  exact hp
theorem getD_take (l : List UInt8) (m i : Nat) : ((l.take m).getD i 0).toNat = if i < m then (l.getD i 0).toNat else 0 := by
  rw [List.getD_eq_getElem?_getD, List.getElem?_take]
  split
  · rw [List.getD_eq_getElem?_getD]
  · rfl
theorem decodeL_take (l : List UInt8) (m : Nat) (hm : (decodeL l).2 ≤ m) : decodeL (l.take m) = decodeL l := by
  have hw := decodeL_width l
  rw [decodeL_N] at hm hw
  rw [decodeL_N, decodeL_N, getD_take, getD_take, getD_take, getD_take, if_pos (by omega), List.length_take]
  exact decodeN_cut _ _ _ _ _ _ hm

theorem rl_cut : ∀ (A : List (Nat × Int)) (p q : Nat) (r : Int) (B : List (Nat × Int)) (t : List UInt8), rl p t = A ++ (q, r) :: B → p ≤ q ∧ rl p (t.take (q - p)) = A ∧ rl q (t.drop (q - p)) = (q, r) :: B ∧ q - p < t.length
  | A, p, q, r, B, t, h => by
    by_cases ht : t = []
    · subst ht
      rw [rl_nil] at h
      cases A <;> cases h
    have hp := List.length_pos_iff.2 ht
    have hst := rl_step p t ht
    have hw := decodeL_width t
    have hle := decodeL_le t ht
    cases A with
    | nil =>
      rw [hst, List.nil_append] at h
      injection h with h1 h2
      injection h1 with h3 h4
      subst h3
      rw [Nat.sub_self, List.take_zero, List.drop_zero]
      exact ⟨Nat.le_refl _, rfl, by rw [hst, h2, h4], hp⟩
    | cons a A =>
      rw [hst, List.cons_append] at h
      injection h with h1 h2
      obtain ⟨i1, i2, i3, i4⟩ := rl_cut A (p + (decodeL t).2) q r B _ h2
      rw [List.length_drop] at i4
      have hne : t.take (q - p) ≠ [] := fun e => by
        have := congrArg List.length e
        rw [List.length_take, List.length_nil] at this
        omega
      have hd := decodeL_take t (q - p) (by omega)
      refine ⟨by omega, ?_, ?_, by omega⟩
      · rw [rl_step p _ hne, hd, h1, List.drop_take, show q - p - (decodeL t).2 = q - (p + (decodeL t).2) by omega, i2]
      · rw [List.drop_drop, show (decodeL t).2 + (q - (p + (decodeL t).2)) = q - p by omega] at i3
        exact i3

/-! ### where an entry begins -/
theorem decomp : ∀ (ps : List (Nat × Int)) (st : PSt), okS st → ∀ i, (endP st).length ≤ i → i < (endP (ps.foldl stepP st)).length →
    ∃ ps1 q r ps2, ps = ps1 ++ (q, r) :: ps2 ∧ (endP (ps1.foldl stepP st)).length = i ∧ okS (ps1.foldl stepP st) ∧ stepP (ps1.foldl stepP st) (q, r) = pre (endP (ps1.foldl stepP st)) (stepP st0 (q, r)) ∧ ¬ isBlank r = true
  | [], st, ho, i, h1, h2 => by
    rw [List.foldl_nil] at h2
    omega
  | (q, r) :: ps, st, ho, i, h1, h2 => by
    rw [List.foldl_cons] at h2
    have go : (endP (stepP st (q, r))).length ≤ i → ∃ ps1 q' r' ps2, (q, r) :: ps = ps1 ++ (q', r') :: ps2 ∧ (endP (ps1.foldl stepP st)).length = i ∧ okS (ps1.foldl stepP st) ∧ stepP (ps1.foldl stepP st) (q', r') = pre (endP (ps1.foldl stepP st)) (stepP st0 (q', r')) ∧ ¬ isBlank r' = true := by
      intro hle
      obtain ⟨ps1, q', r', ps2, e, k1, k2, k3, k4⟩ := decomp ps (stepP st (q, r)) (stepP_ok st _ ho) i hle h2
      exact ⟨(q, r) :: ps1, q', r', ps2, by rw [e]; rfl, k1, k2, k3, k4⟩
    by_cases hb : isBlank r = true
    · refine go ?_
      rw [blank_fold st (q, r) hb, endP_pre _ _ okS0]
      simpa [endP, st0, closeF] using h1
    by_cases hn : st.opn = true ∧ isNum r = true
    · refine go ?_
      obtain ⟨es, txt, opn⟩ := st
      obtain ⟨e1, e2⟩ := hn
      have e1' : opn = true := e1
      subst e1'
      rw [stepP_num hb e2]
      unfold endP at h1 ⊢
      rw [closeF_length] at h1 ⊢
      exact h1
    · have e1 : stepP st (q, r) = ⟨endP st ++ [newE r q], [], true⟩ := by
        obtain ⟨es, txt, opn⟩ := st
        exact stepP_new hb hn
      have e2 : stepP st0 (q, r) = ⟨[newE r q], [], true⟩ := stepP_new hb (fun h => by cases h.1)
      have e3 : stepP st (q, r) = pre (endP st) (stepP st0 (q, r)) := by rw [e1, e2]; rfl
      by_cases hi : i = (endP st).length
      · exact ⟨[], q, r, ps, rfl, hi.symm, ho, e3, hb⟩
      · refine go ?_
        rw [e1]
        unfold endP at h1 hi ⊢
        rw [closeF_length, List.length_append, List.length_singleton]
        omega

def HeadAt (q : Nat) (es : List S33) : Prop := ∃ e r, es = e :: r ∧ e.f3 = (q : Int)
theorem headAt_close (q : Nat) (es : List S33) (txt : List Int) (opn : Bool) (h : HeadAt q es) : HeadAt q (closeF es txt opn) := by
  obtain ⟨e, r, rfl, he⟩ := h
  unfold closeF
  cases opn with
  | false => exact ⟨e, r, rfl, he⟩
  | true =>
    rw [if_pos rfl]
    cases r with
    | nil => exact ⟨shutE e txt, [], rfl, by rw [shutE_at]; exact he⟩
    | cons x r =>
      rw [show (e :: x :: r).length - 1 = r.length + 1 by simp, List.set_cons_succ]
      exact ⟨e, _, rfl, he⟩
theorem headAt_fold (q : Nat) : ∀ (ps : List (Nat × Int)) (st : PSt), HeadAt q st.es → HeadAt q (endP (ps.foldl stepP st))
  | [], st, h => headAt_close q _ _ _ h
  | p :: ps, st, h => by
    rw [List.foldl_cons]
    refine headAt_fold q ps _ ?_
    unfold stepP
    split
    · exact headAt_close q _ _ _ h
    · split
      · exact h
      · obtain ⟨e, r, hr, he⟩ := headAt_close q _ st.txt st.opn h
        exact ⟨e, r ++ [newE p.2 p.1], by rw [hr]; rfl, he⟩

/-- Behind a place where an entry begins the entries are those of what begins there. -/
theorem split_at (ps1 : List (Nat × Int)) (q : Nat) (r : Int) (ps2 : List (Nat × Int)) (st : PSt) (k3 : stepP (ps1.foldl stepP st) (q, r) = pre (endP (ps1.foldl stepP st)) (stepP st0 (q, r))) :
    endP ((ps1 ++ (q, r) :: ps2).foldl stepP st) = endP (ps1.foldl stepP st) ++ endP (((q, r) :: ps2).foldl stepP st0) := by
  rw [List.foldl_append, List.foldl_cons, k3, fold_pre _ _ _ (stepP_ok _ _ okS0), endP_pre _ _ (fold_ok _ _ (stepP_ok _ _ okS0)), List.foldl_cons]

theorem shutE_none (e : S33) (txt : List Int) : (shutE e txt).f2 = false → (shutE e txt).f1 = [] := by
  unfold shutE setA
  split
  · exact fun _ => rfl
  · unfold numsOf
    split
    · intro h; cases h
    · split
      · intro h; cases h
      · exact fun _ => rfl
theorem parseL_none (l : List UInt8) : ∀ e ∈ parseL l, e.f2 = false → e.f1 = [] := by
  refine fold_all (fun e => e.f2 = false → e.f1 = []) l.length (fun e txt _ _ => shutE_none e txt) _ _ okS0 ?_ (fun p _ _ => rfl) (fun e he => by cases he)
  have := rl_len 0 l
  have h0 : st0.txt.length = 0 := rfl
  omega

structure Alone (S : List UInt8) (i : Nat) (up : Nat) : Prop where
  le : ((parseL S).getD i z33).f3 < (up : Int)
  top : up ≤ S.length
  one : ∃ e, parseL ((S.drop ((parseL S).getD i z33).f3.toNat).take (up - ((parseL S).getD i z33).f3.toNat)) = [e] ∧ e.f0 = ((parseL S).getD i z33).f0 ∧ e.f1 = ((parseL S).getD i z33).f1 ∧ e.f2 = ((parseL S).getD i z33).f2 ∧ e.f3 = 0

theorem one_of_shift (T : List UInt8) (q : Nat) (x : S33) (h : (parseL T).map (shiftE q) = [x]) (hx : x.f3 = (q : Int)) : ∃ e, parseL T = [e] ∧ e.f0 = x.f0 ∧ e.f1 = x.f1 ∧ e.f2 = x.f2 ∧ e.f3 = 0 := by
  cases hp : parseL T with
  | nil => rw [hp] at h; cases h
  | cons e r =>
    rw [hp, List.map_cons] at h
    injection h with h1 h2
    have hr : r = [] := List.map_eq_nil_iff.1 h2
    subst hr
    subst h1
    refine ⟨e, rfl, rfl, rfl, rfl, ?_⟩
    have : e.f3 + (q : Int) = (q : Int) := hx
    omega

theorem alone (S : List UInt8) (i : Nat) (hi : i < (parseL S).length) : Alone S i (if i + 1 < (parseL S).length then ((parseL S).getD (i + 1) z33).f3.toNat else S.length) := by
  obtain ⟨ps1, q, r, ps2, e, k1, k2, k3, k4⟩ := decomp (rl 0 S) st0 okS0 i (Nat.zero_le _) hi
  obtain ⟨_, _, hq, hqs⟩ := rl_cut ps1 0 q r ps2 S e
  rw [Nat.sub_zero] at hq hqs
  have hL : parseL S = endP (ps1.foldl stepP st0) ++ endP (((q, r) :: ps2).foldl stepP st0) := by
    unfold parseL
    rw [e]
    exact split_at ps1 q r ps2 st0 k3
  obtain ⟨M, hM⟩ : ∃ M, endP (((q, r) :: ps2).foldl stepP st0) = M := ⟨_, rfl⟩
  have hnew : stepP st0 (q, r) = ⟨[newE r q], [], true⟩ := stepP_new k4 (fun h => by cases h.1)
  have hHead : HeadAt q M := by
    rw [← hM, List.foldl_cons, hnew]
    exact headAt_fold q ps2 _ ⟨_, _, rfl, rfl⟩
  rw [hM] at hL
  obtain ⟨x, M', hM', hx⟩ := hHead
  have hget : ∀ j, (parseL S).getD (i + j) z33 = M.getD j z33 := by
    intro j
    rw [hL, List.getD_eq_getElem?_getD, List.getElem?_append_right (by omega), k1, Nat.add_sub_cancel_left, ← List.getD_eq_getElem?_getD]
  have hlen : (parseL S).length = i + M.length := by rw [hL, List.length_append, k1]
  have h0 : (parseL S).getD i z33 = x := by
    have := hget 0
    rw [Nat.add_zero, hM'] at this
    exact this
  by_cases hn : i + 1 < (parseL S).length
  · rw [if_pos hn]
    have h2 : 1 < M.length := by omega
    have hs1 : (endP (stepP st0 (q, r))).length = 1 := by
      rw [hnew]
      unfold endP
      rw [closeF_length]
      rfl
    obtain ⟨pa, q', r', pb, e', j1, j2, j3, j4⟩ := decomp ps2 (stepP st0 (q, r)) (stepP_ok _ _ okS0) 1 (by omega) (by rw [← List.foldl_cons, hM]; exact h2)
    have hspl := split_at pa q' r' pb (stepP st0 (q, r)) j3
    rw [← e', ← List.foldl_cons, hM] at hspl
    have hHead' : HeadAt q' (endP (((q', r') :: pb).foldl stepP st0)) := by
      rw [List.foldl_cons, stepP_new j4 (fun h => by cases h.1)]
      exact headAt_fold q' pb _ ⟨_, _, rfl, rfl⟩
    obtain ⟨y, R, hR, hy⟩ := hHead'
    obtain ⟨x', hx'⟩ := List.length_eq_one_iff.1 j1
    rw [hx', hR, hM'] at hspl
    have hxx : x = x' := by injection hspl
    have hM1 : M' = y :: R := by injection hspl
    have h1 : (parseL S).getD (i + 1) z33 = y := by rw [hget 1, hM', hM1]; rfl
    have hrl : rl q (S.drop q) = ((q, r) :: pa) ++ (q', r') :: pb := by rw [hq, e']; rfl
    obtain ⟨c1, c2, c3, c4⟩ := rl_cut ((q, r) :: pa) q q' r' pb _ hrl
    rw [List.length_drop] at c4
    have hlt : q < q' := by
      have hne : S.drop q ≠ [] := fun he => by rw [he, rl_nil] at hrl; cases hrl
      have hst := rl_step q _ hne
      rw [hrl, List.cons_append] at hst
      injection hst with _ hst2
      have hw := decodeL_width (S.drop q)
      have hin : (q', r') ∈ rl (q + (decodeL (S.drop q)).2) ((S.drop q).drop (decodeL (S.drop q)).2) := by rw [← hst2]; simp
      have := rlF_at _ _ _ _ hin
      simp only at this
      omega
    have hto : ((parseL S).getD (i + 1) z33).f3.toNat = q' := by rw [h1, hy]; simp
    have hfr : ((parseL S).getD i z33).f3.toNat = q := by rw [h0, hx]; simp
    refine ⟨by rw [hto, h0, hx]; omega, by rw [hto]; omega, ?_⟩
    rw [hto, hfr, h0]
    refine one_of_shift _ q x ?_ hx
    rw [← parseL_at, c2, hxx, ← hx', List.foldl_cons]
  · rw [if_neg hn]
    have hM1 : M' = [] := by
      rw [hM', List.length_cons] at hlen
      exact List.length_eq_zero_iff.1 (by omega)
    have hfr : ((parseL S).getD i z33).f3.toNat = q := by rw [h0, hx]; simp
    refine ⟨by rw [h0, hx]; omega, Nat.le_refl _, ?_⟩
    rw [hfr, h0]
    refine one_of_shift _ q x ?_ hx
    rw [← parseL_at, List.take_of_length_le (by rw [List.length_drop]; omega), hq, hM, hM', hM1]

/-! ### the law -/
theorem spoils_loop (s : ByteArray) (hs : s.size ≤ 1000) : ∀ (m i : Nat), i + m = (parseL s.data.toList).length → Ev (fun k => hatstandlaw3_GlyphSpoils.l0 k s (parseL s.data.toList) (i : Int)) true := by
  have hl : s.data.toList.length = s.size := by simp
  have hpl := parseL_len s.data.toList
  intro m
  induction m with
  | zero =>
    intro i hi
    refine Ev.step (fun k => ?_) (Ev.now true)
    rw [hatstandlaw3_GlyphSpoils.l0, if_neg (by omega)]
  | succ m ih =>
    intro i hi
    obtain ⟨l, hL⟩ : ∃ l, parseL s.data.toList = l := ⟨_, rfl⟩
    have hil : i < (parseL s.data.toList).length := by omega
    have hal := alone s.data.toList i hil
    have hmem : ∀ j, j < l.length → l.getD j z33 ∈ l := by
      intro j hj
      rw [List.getD_eq_getElem?_getD, List.getElem?_eq_getElem hj]
      exact List.getElem_mem hj
    have hat := parseL_at_lt s.data.toList ((parseL s.data.toList).getD i z33) (by rw [hL]; exact hmem i (by rw [← hL]; exact hil))
    have hnone := parseL_none s.data.toList ((parseL s.data.toList).getD i z33) (by rw [hL]; exact hmem i (by rw [← hL]; exact hil))
    have hprev : 0 < i → ((parseL s.data.toList).getD (i - 1) z33).f3 < ((parseL s.data.toList).getD i z33).f3 := by
      intro h0
      have ha := (alone s.data.toList (i - 1) (by omega)).le
      rw [if_pos (by omega), show i - 1 + 1 = i by omega] at ha
      omega
    have ih' := ih (i + 1) (by omega)
    rw [hL] at hil hal hat hnone hprev ih' ⊢
    obtain ⟨up, hto⟩ : ∃ up, (if i + 1 < l.length then (l.getD (i + 1) z33).f3.toNat else s.data.toList.length) = up := ⟨_, rfl⟩
    rw [hto] at hal
    obtain ⟨a1, a2, e, a3, a4, a5, a6, a7⟩ := hal
    rw [hL] at a1 a3 a4 a5 a6
    obtain ⟨E, hE⟩ : ∃ E, l.getD i z33 = E := ⟨_, rfl⟩
    have hrd : rd_T33 l (i : Int) = E := hE
    rw [hE] at a1 a3 a4 a5 a6 hat hnone hprev
    have hlen : l.length ≤ 1000 := by rw [← hL]; omega
    have h4 : Ev (fun k => hatstandlaw3_GlyphSpoils.j4 k s l (i : Int) false) true := by
      refine Ev.step (fun k => ?_) ih'
      rw [hatstandlaw3_GlyphSpoils.j4, if_neg (by simp), wrap64_in _ (by omega)]
      rfl
    have hex : (s.extract E.f3.toNat up).data.toList = (s.data.toList.drop E.f3.toNat).take (up - E.f3.toNat) := by rw [extract_data]
    have hparse : glyph_Parse.f (s.extract E.f3.toNat up) = some [e] := by
      unfold glyph_Parse.f
      rw [if_pos (by rw [ByteArray.size_extract]; omega), parseF_L, hex, a3]
    have h3 : Ev (fun k => hatstandlaw3_GlyphSpoils.j3 k s l (i : Int) (up : Int)) true := by
      refine Ev.step (fun k => ?_) h4
      rw [hatstandlaw3_GlyphSpoils.j3, hrd, if_pos (by omega), if_pos (by omega), if_pos (by omega), if_pos (by omega), if_pos (by omega), Int.toNat_natCast, hparse]
      simp only [Option.bind_some]
      have hr0 : rd_T33 [e] 0 = e := rfl
      rw [hr0, if_pos (by simp), if_pos (by simp), if_pos a4, if_neg (by rw [a6]; simp), if_pos a7, a5]
      congr 1
      simp
    have h2 : Ev (fun k => hatstandlaw3_GlyphSpoils.j2 k s l (i : Int) false) true := by
      refine Ev.step (fun k => ?_) h3
      rw [hatstandlaw3_GlyphSpoils.j2, if_neg (by simp), wrap64_in _ (by omega)]
      by_cases hn : i + 1 < l.length
      · rw [if_pos hn] at hto
        have hmem2 := parseL_at_lt s.data.toList (l.getD (i + 1) z33) (by rw [hL]; exact hmem _ hn)
        have hrd2 : rd_T33 l ((i : Int) + 1) = l.getD (i + 1) z33 := by
          unfold rd_T33
          rw [show ((i : Int) + 1).toNat = i + 1 by omega]
        rw [if_pos (by omega), if_pos (by omega), hrd2, ← hto, show (((l.getD (i + 1) z33).f3.toNat : Nat) : Int) = (l.getD (i + 1) z33).f3 by omega]
      · rw [if_neg hn] at hto
        rw [if_neg (by omega), ← hto, hl]
    refine Ev.step (fun k => ?_) h2
    rw [hatstandlaw3_GlyphSpoils.l0, hrd, if_pos (by omega), if_pos (by omega), if_neg (by omega), if_neg (by omega)]
    have tail : (if (E.f2 = true) then (hatstandlaw3_GlyphSpoils.j2 k s l (i : Int) false) else (hatstandlaw3_GlyphSpoils.j2 k s l (i : Int) (((E.f1).length : Int) != 0))) = hatstandlaw3_GlyphSpoils.j2 k s l (i : Int) false := by
      cases h2' : E.f2 with
      | true => rw [if_pos rfl]
      | false =>
        rw [if_neg (by simp), hnone h2']
        rfl
    by_cases h0 : (i : Int) > 0
    · have hrdp : rd_T33 l ((i : Int) - 1) = l.getD (i - 1) z33 := by
        unfold rd_T33
        rw [show ((i : Int) - 1).toNat = i - 1 by omega]
      have hp := hprev (by omega)
      rw [if_pos h0, wrap64_in _ (by omega), if_pos (by omega), if_pos (by omega), hrdp, if_neg (by omega), tail]
    · rw [if_neg h0, tail]

theorem spoils_pure (a0 : ByteArray) (z0 : a0.size ≤ 140737488351232) : ∃ k, hatstandlaw3_GlyphSpoils.f k a0 = some true := by
  by_cases hs : (a0.size : Int) > 1000
  · have hj : Ev (fun k => hatstandlaw3_GlyphSpoils.j0 k a0 true true) true := Ev.step (fun k => by rw [hatstandlaw3_GlyphSpoils.j0, if_pos rfl]) (Ev.now true)
    refine Ev.rounds (Ev.congr (fun k => ?_) hj)
    simp only [hatstandlaw3_GlyphSpoils.f, hatstandlaw3_shown.f, Option.bind_some, if_true]
    rw [show decide ((a0.size : Int) > 1000) = true from decide_eq_true hs]
  have hp : glyph_Parse.f a0 = some (parseL a0.data.toList) := by
    unfold glyph_Parse.f
    rw [if_pos (by omega), parseF_L]
  have main : Ev (fun k => hatstandlaw3_GlyphSpoils.j0 k a0 true false) true := by
    refine Ev.step (fun k => ?_) (spoils_loop a0 (by omega) _ 0 (Nat.zero_add _))
    rw [hatstandlaw3_GlyphSpoils.j0, if_neg (by simp), hp]
    rfl
  refine Ev.rounds (Ev.congr (fun k => ?_) main)
  simp only [hatstandlaw3_GlyphSpoils.f, hatstandlaw3_shown.f, Option.bind_some, if_true]
  rw [show decide ((a0.size : Int) > 1000) = false from decide_eq_false hs]
end Go.Proofs.YtcldjdngfmakbaaDoor.G

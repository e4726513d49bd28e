/-
  Proved: RunnerRuns answers true and leaves its arguments as they were, for every input; where the package-level variables that the row lists hold what the program's text lays (the card ties that).
-/
import Derived.Test.YtgdoeoackhfikaaGreatDoorQA1
import Derived.Test.YtgdoeoackhfikaaGreatDoorQA2
import Derived.Test.YtgdoeoackhfikaaGreatDoorQA3
import Derived.Test.YtgdoeoackhfikaaGreatDoorQA4
import Derived.Test.YtgdoeoackhfikaaGreatDoorQA5
import Derived.Test.YtgdoeoackhfikaaGreatDoorQA6
import Derived.Test.YtgdoeoackhfikaaGreatDoorQA7
import Derived.Test.YtgdoeoackhfikaaGreatDoorQA8
import Derived.Test.YtgdoeoackhfikaaGreatDoorQA9
import Derived.Test.YtgdoeoackhfikaaGreatDoorQA10
import Derived.Test.YtgdoeoackhfikaaGreatDoorQA11
import Derived.Test.YtgdoeoackhfikaaGreatDoorQA12
import Derived.Test.YtgdoeoackhfikaaGreatDoorQA13
import Derived.Test.YtgdoeoackhfikaaGreatDoorQA14
import Derived.Test.YtgdoeoackhfikaaGreatDoorQA15
import Derived.Test.YtgdoeoackhfikaaGreatDoorQA16
import Derived.Test.YtgdoeoackhfikaaGreatDoorQA17
import Derived.Test.YtgdoeoackhfikaaGreatDoorQA18
import Derived.Test.YtgdoeoackhfikaaGreatDoorQA19
import Derived.Test.YtgdoeoackhfikaaGreatDoorQA20
import Derived.Lib.MapLaws
import Derived.Lib.TrimAscii
import Derived.Deep.RegionLaw
import Derived.Deep.AppendLies
import Derived.Deep.Upon
namespace Go.Proofs.YtgdoeoackhfikaaGreatDoor
open Go.RowKit
set_option maxRecDepth 100000
set_option linter.unusedSimpArgs false
set_option linter.unusedVariables false

theorem runs_at (σ : Run) (f : G.S33 → G.S33) (hf : ∀ e, (f e).f0 = e.f0 ∧ (f e).f1 = e.f1 ∧ (f e).f2 = e.f2) (es : List G.S33) : σ.runs (es.map f) = σ.runs es := by
 induction es generalizing σ with
 | nil => rfl
 | cons e es ih =>
  have h1 : σ.do_ (entOf (f e)) = σ.do_ (entOf e) := by
   obtain ⟨a, b, c⟩ := hf e
   unfold entOf Run.do_
   rw [a, b, c]
  simp only [List.map_cons, Run.runs, h1, ih]
theorem runs_len (σ : Run) (es : List G.S33) : (σ.runs es).2.length = es.length := by
 induction es generalizing σ with
 | nil => rfl
 | cons e es ih => simp only [Run.runs, List.length_cons, ih]

end Go.Proofs.YtgdoeoackhfikaaGreatDoor

namespace Go.Proofs.YtgdoeoackhfikaaGreatDoor.G
open Go.RowKit Go.Proofs.YtgdoeoackhfikaaGreatDoor Go.Proofs.YtgdoeoackhfikaaGreatDoorW.PrintWords Go.Lib
set_option linter.unusedVariables false
set_option linter.unusedSimpArgs false

theorem rlF_fuel : ∀ (n m pos : Nat) (l : List UInt8), l.length ≤ n → l.length ≤ m → rlF n pos l = rlF m pos l
 | 0, m, pos, l, hn, _ => by
  have e : l = [] := List.length_eq_zero_iff.1 (by omega)
  subst e
  cases m <;> simp [rlF]
 | n + 1, 0, pos, l, _, hm => by
  have e : l = [] := List.length_eq_zero_iff.1 (by omega)
  subst e
  simp [rlF]
 | n + 1, m + 1, pos, l, hn, hm => by
  by_cases e : l = []
  ·simp [rlF, e]
  ·have hw := decodeL_width l
   have hp := List.length_pos_iff.2 e
   rw [rlF, rlF, if_neg e, if_neg e, rlF_fuel n m _ _ (by rw [List.length_drop]; omega) (by rw [List.length_drop]; omega)]
theorem rl_nil (pos : Nat) : rl pos [] = [] := rfl
theorem rl_step (pos : Nat) (l : List UInt8) (h : l ≠ []) : rl pos l = (pos, ((decodeL l).1 : Int)) :: rl (pos + (decodeL l).2) (l.drop (decodeL l).2) := by
 have hp := List.length_pos_iff.2 h
 have hw := decodeL_width l
 obtain ⟨n, hn⟩ : ∃ n, l.length = n + 1 := ⟨l.length - 1, by omega⟩
 unfold rl
 rw [hn, rlF, if_neg h, rlF_fuel n _ _ _ (by rw [List.length_drop]; omega) (Nat.le_refl _)]

theorem rl_shift : ∀ (n : Nat) (pos d : Nat) (l : List UInt8), l.length ≤ n → rl (pos + d) l = (rl pos l).map (fun p => (p.1 + d, p.2))
 | n, pos, d, [], _ => rfl
 | 0, pos, d, x :: l, h => by simp at h
 | n + 1, pos, d, x :: l, h => by
  have hne : x :: l ≠ [] := by simp
  have hw := decodeL_width (x :: l)
  rw [rl_step _ _ hne, rl_step pos _ hne, List.map_cons, ← rl_shift n _ d _ (by rw [List.length_drop, List.length_cons] at *; omega)]
  congr 2
  omega

def shiftE (d : Nat) (e : S33) : S33 := ⟨e.f0, e.f1, e.f2, e.f3 + d⟩
def pre (E : List S33) (st : PSt) : PSt := ⟨E ++ st.es, st.txt, st.opn⟩
def mv (d : Nat) (st : PSt) : PSt := ⟨st.es.map (shiftE d), st.txt, st.opn⟩
theorem closeF_pre (E es : List S33) (txt : List Int) (opn : Bool) (h : opn = true → es ≠ []) : closeF (E ++ es) txt opn = E ++ closeF es txt opn := by
 unfold closeF
 cases opn with
 | false => rfl
 | true =>
  have hp := List.length_pos_iff.2 (h rfl)
  rw [if_pos rfl, if_pos rfl, List.length_append, List.set_append, if_neg (by omega)]
  congr 1
  have e : E.length + es.length - 1 - E.length = es.length - 1 := by omega
  rw [e]
  congr 2
  simp only [List.getD_eq_getElem?_getD]
  rw [List.getElem?_append_right (by omega), e]
theorem stepP_pre (E : List S33) (st : PSt) (p : Nat × Int) (h : okS st) : stepP (pre E st) p = pre E (stepP st p) := by
 unfold stepP
 by_cases hb : isBlank p.2 = true
 ·rw [if_pos hb, if_pos hb]
  simp only [pre]
  rw [closeF_pre _ _ _ _ h]
 ·rw [if_neg hb, if_neg hb]
  by_cases hn : st.opn = true ∧ isNum p.2 = true
  ·rw [if_pos hn, if_pos (show (pre E st).opn = true ∧ isNum p.2 = true from hn)]
   rfl
  ·rw [if_neg hn, if_neg (show ¬ ((pre E st).opn = true ∧ isNum p.2 = true) from hn)]
   simp only [pre]
   rw [closeF_pre _ _ _ _ h, List.append_assoc]
theorem fold_pre (E : List S33) : ∀ (ps : List (Nat × Int)) (st : PSt), okS st → ps.foldl stepP (pre E st) = pre E (ps.foldl stepP st)
 | [], st, _ => rfl
 | p :: ps, st, h => by rw [List.foldl_cons, List.foldl_cons, stepP_pre E st p h, fold_pre E ps _ (stepP_ok st p h)]
theorem fold_ok : ∀ (ps : List (Nat × Int)) (st : PSt), okS st → okS (ps.foldl stepP st)
 | [], st, h => h
 | p :: ps, st, h => fold_ok ps _ (stepP_ok st p h)
theorem endP_pre (E : List S33) (st : PSt) (h : okS st) : endP (pre E st) = E ++ endP st := closeF_pre _ _ _ _ h
theorem shutE_mv (d : Nat) (e : S33) (txt : List Int) : shutE (shiftE d e) txt = shiftE d (shutE e txt) := by
 unfold shutE shiftE setA
 split <;> rfl
theorem closeF_mv (d : Nat) (es : List S33) (txt : List Int) (opn : Bool) (h : opn = true → es ≠ []) : closeF (es.map (shiftE d)) txt opn = (closeF es txt opn).map (shiftE d) := by
 unfold closeF
 cases opn with
 | false => rfl
 | true =>
  have hp := List.length_pos_iff.2 (h rfl)
  rw [if_pos rfl, if_pos rfl, List.length_map, List.map_set, ← shutE_mv]
  congr 2
  simp only [List.getD_eq_getElem?_getD, List.getElem?_map]
  rw [List.getElem?_eq_getElem (by omega)]
  rfl
theorem stepP_mv (d : Nat) (st : PSt) (p : Nat × Int) (h : okS st) : stepP (mv d st) (p.1 + d, p.2) = mv d (stepP st p) := by
 unfold stepP
 by_cases hb : isBlank p.2 = true
 ·rw [if_pos hb, if_pos hb]
  simp only [mv]
  rw [closeF_mv _ _ _ _ h]
 ·rw [if_neg hb, if_neg hb]
  by_cases hn : st.opn = true ∧ isNum p.2 = true
  ·rw [if_pos hn, if_pos (show (mv d st).opn = true ∧ isNum p.2 = true from hn)]
   rfl
  ·rw [if_neg hn, if_neg (show ¬ ((mv d st).opn = true ∧ isNum p.2 = true) from hn)]
   simp only [mv]
   rw [closeF_mv _ _ _ _ h, List.map_append]
   simp [newE, shiftE]
theorem fold_mv (d : Nat) : ∀ (ps : List (Nat × Int)) (st : PSt), okS st → (ps.map (fun p => (p.1 + d, p.2))).foldl stepP (mv d st) = mv d (ps.foldl stepP st)
 | [], st, _ => rfl
 | p :: ps, st, h => by rw [List.map_cons, List.foldl_cons, List.foldl_cons, stepP_mv d st p h, fold_mv d ps _ (stepP_ok st p h)]

theorem parseL_at (d : Nat) (l : List UInt8) : endP ((rl d l).foldl stepP st0) = (parseL l).map (shiftE d) := by
 have h := fold_mv d (rl 0 l) st0 okS0
 have e : rl d l = (rl 0 l).map (fun p => (p.1 + d, p.2)) := by
  have := rl_shift l.length 0 d l (Nat.le_refl _)
  rwa [Nat.zero_add] at this
 rw [e]
 have e0 : mv d st0 = st0 := rfl
 rw [e0] at h
 rw [h]
 exact closeF_mv _ _ _ _ (fold_ok _ _ okS0)
theorem blank_fold (st : PSt) (p : Nat × Int) (h : isBlank p.2 = true) : stepP st p = pre (endP st) st0 := by
 unfold stepP
 rw [if_pos h]
 simp [pre, st0, endP]
theorem shutE_at (e : S33) (txt : List Int) : (shutE e txt).f3 = e.f3 := by
 unfold shutE setA
 split <;> rfl
set_option maxHeartbeats 1000000 in
theorem decodeN_cut (n m b0 b1 b2 b3 : Nat) (hm : (decodeN n b0 b1 b2 b3).2 ≤ m) : decodeN (min m n) b0 (if 1 < m then b1 else 0) (if 2 < m then b2 else 0) (if 3 < m then b3 else 0) = decodeN n b0 b1 b2 b3 := by
 have q1 : (1 < min m n ∧ (if 1 < m then b1 else 0) / 64 = 2) ↔ (1 < m ∧ 1 < n ∧ b1 / 64 = 2) := by split <;> omega
 have q2 : (2 < min m n ∧ (if 2 < m then b2 else 0) / 64 = 2) ↔ (2 < m ∧ 2 < n ∧ b2 / 64 = 2) := by split <;> omega
 have q3 : (3 < min m n ∧ (if 3 < m then b3 else 0) / 64 = 2) ↔ (3 < m ∧ 3 < n ∧ b3 / 64 = 2) := by split <;> omega
 obtain ⟨p, hp⟩ : ∃ p, decodeN n b0 b1 b2 b3 = p := ⟨_, rfl⟩
 rw [hp] at hm ⊢
 unfold decodeN at hp ⊢
 simp only [q1, q2, q3]
 by_cases c0 : b0 < 128
 ·rw [if_pos c0] at hp ⊢
  exact hp
 rw [if_neg c0] at hp ⊢
 by_cases c1 : b0 / 32 = 6 ∧ 1 < n ∧ b1 / 64 = 2
 ·rw [if_pos c1] at hp
  by_cases m1 : 1 < m
  ·rw [if_pos ⟨c1.1, m1, c1.2⟩, if_pos m1]
   exact hp
  ·rw [if_neg (fun h => m1 h.2.1), if_neg (by omega), if_neg (by omega)]
   split at hp
   ·rw [← hp] at hm
    simp only at hm
    omega
   ·exact hp
 rw [if_neg c1] at hp
 rw [if_neg (fun h => c1 ⟨h.1, h.2.2⟩)]
 by_cases c2 : b0 / 16 = 14 ∧ (1 < n ∧ b1 / 64 = 2) ∧ (2 < n ∧ b2 / 64 = 2)
 ·rw [if_pos c2] at hp
  by_cases m2 : 2 < m
  ·have e1 : (if 1 < m then b1 else 0) = b1 := if_pos (by omega)
   have e2 : (if 2 < m then b2 else 0) = b2 := if_pos m2
   rw [if_pos ⟨c2.1, ⟨by omega, c2.2.1⟩, m2, c2.2.2⟩, e1, e2]
   exact hp
  ·rw [if_neg (fun h => m2 h.2.2.1), if_neg (by omega)]
   split at hp
   ·rw [← hp] at hm
    simp only at hm
    omega
   ·exact hp
 rw [if_neg c2] at hp
 rw [if_neg (fun h => c2 ⟨h.1, h.2.1.2, h.2.2.2⟩)]
 by_cases c3 : b0 / 8 = 30 ∧ (1 < n ∧ b1 / 64 = 2) ∧ (2 < n ∧ b2 / 64 = 2) ∧ (3 < n ∧ b3 / 64 = 2)
 ·rw [if_pos c3] at hp
  by_cases m3 : 3 < m
  ·have e1 : (if 1 < m then b1 else 0) = b1 := if_pos (by omega)
   have e2 : (if 2 < m then b2 else 0) = b2 := if_pos (by omega)
   have e3 : (if 3 < m then b3 else 0) = b3 := if_pos m3
   rw [if_pos ⟨c3.1, ⟨by omega, c3.2.1⟩, ⟨by omega, c3.2.2.1⟩, m3, c3.2.2.2⟩, e1, e2, e3]
   exact hp
  ·rw [if_neg (fun h => m3 h.2.2.2.1)]
   split at hp
   ·rw [← hp] at hm
    simp only at hm
    omega
   ·exact hp
 rw [if_neg c3] at hp
 rw [if_neg (fun h => c3 ⟨h.1, h.2.1.2, h.2.2.1.2, h.2.2.2.2⟩)]
 exact hp
theorem getD_take (l : List UInt8) (m i : Nat) : ((l.take m).getD i 0).toNat = if i < m then (l.getD i 0).toNat else 0 := by
 rw [List.getD_eq_getElem?_getD, List.getElem?_take]
 split
 ·rw [List.getD_eq_getElem?_getD]
 ·rfl
theorem decodeL_take (l : List UInt8) (m : Nat) (hm : (decodeL l).2 ≤ m) : decodeL (l.take m) = decodeL l := by
 have hw := decodeL_width l
 rw [decodeL_N] at hm hw
 rw [decodeL_N, decodeL_N, getD_take, getD_take, getD_take, getD_take, if_pos (by omega), List.length_take]
 exact decodeN_cut _ _ _ _ _ _ hm
theorem rl_cut : ∀ (A : List (Nat × Int)) (p q : Nat) (r : Int) (B : List (Nat × Int)) (t : List UInt8), rl p t = A ++ (q, r) :: B → p ≤ q ∧ rl p (t.take (q - p)) = A ∧ rl q (t.drop (q - p)) = (q, r) :: B ∧ q - p < t.length
 | A, p, q, r, B, t, h => by
  by_cases ht : t = []
  ·subst ht
   rw [rl_nil] at h
   cases A <;> cases h
  have hp := List.length_pos_iff.2 ht
  have hst := rl_step p t ht
  have hw := decodeL_width t
  have hle := decodeL_le t ht
  cases A with
  | nil =>
   rw [hst, List.nil_append] at h
   injection h with h1 h2
   injection h1 with h3 h4
   subst h3
   rw [Nat.sub_self, List.take_zero, List.drop_zero]
   exact ⟨Nat.le_refl _, rfl, by rw [hst, h2, h4], hp⟩
  | cons a A =>
   rw [hst, List.cons_append] at h
   injection h with h1 h2
   obtain ⟨i1, i2, i3, i4⟩ := rl_cut A (p + (decodeL t).2) q r B _ h2
   rw [List.length_drop] at i4
   have hne : t.take (q - p) ≠ [] := fun e => by
    have := congrArg List.length e
    rw [List.length_take, List.length_nil] at this
    omega
   have hd := decodeL_take t (q - p) (by omega)
   refine ⟨by omega, ?_, ?_, by omega⟩
   ·rw [rl_step p _ hne, hd, h1, List.drop_take, show q - p - (decodeL t).2 = q - (p + (decodeL t).2) by omega, i2]
   ·rw [List.drop_drop, show (decodeL t).2 + (q - (p + (decodeL t).2)) = q - p by omega] at i3
    exact i3

theorem decomp : ∀ (ps : List (Nat × Int)) (st : PSt), okS st → ∀ i, (endP st).length ≤ i → i < (endP (ps.foldl stepP st)).length →
  ∃ ps1 q r ps2, ps = ps1 ++ (q, r) :: ps2 ∧ (endP (ps1.foldl stepP st)).length = i ∧ okS (ps1.foldl stepP st) ∧ stepP (ps1.foldl stepP st) (q, r) = pre (endP (ps1.foldl stepP st)) (stepP st0 (q, r)) ∧ ¬ isBlank r = true
 | [], st, ho, i, h1, h2 => by
  rw [List.foldl_nil] at h2
  omega
 | (q, r) :: ps, st, ho, i, h1, h2 => by
  rw [List.foldl_cons] at h2
  have go : (endP (stepP st (q, r))).length ≤ i → ∃ ps1 q' r' ps2, (q, r) :: ps = ps1 ++ (q', r') :: ps2 ∧ (endP (ps1.foldl stepP st)).length = i ∧ okS (ps1.foldl stepP st) ∧ stepP (ps1.foldl stepP st) (q', r') = pre (endP (ps1.foldl stepP st)) (stepP st0 (q', r')) ∧ ¬ isBlank r' = true := by
   intro hle
   obtain ⟨ps1, q', r', ps2, e, k1, k2, k3, k4⟩ := decomp ps (stepP st (q, r)) (stepP_ok st _ ho) i hle h2
   exact ⟨(q, r) :: ps1, q', r', ps2, by rw [e]; rfl, k1, k2, k3, k4⟩
  by_cases hb : isBlank r = true
  ·refine go ?_
   rw [blank_fold st (q, r) hb, endP_pre _ _ okS0]
   simpa [endP, st0, closeF] using h1
  by_cases hn : st.opn = true ∧ isNum r = true
  ·refine go ?_
   obtain ⟨es, txt, opn⟩ := st
   obtain ⟨e1, e2⟩ := hn
   have e1' : opn = true := e1
   subst e1'
   rw [stepP_num hb e2]
   unfold endP at h1 ⊢
   rw [closeF_length] at h1 ⊢
   exact h1
  ·have e1 : stepP st (q, r) = ⟨endP st ++ [newE r q], [], true⟩ := by
    obtain ⟨es, txt, opn⟩ := st
    exact stepP_new hb hn
   have e2 : stepP st0 (q, r) = ⟨[newE r q], [], true⟩ := stepP_new hb (fun h => by cases h.1)
   have e3 : stepP st (q, r) = pre (endP st) (stepP st0 (q, r)) := by rw [e1, e2]; rfl
   by_cases hi : i = (endP st).length
   ·exact ⟨[], q, r, ps, rfl, hi.symm, ho, e3, hb⟩
   ·refine go ?_
    rw [e1]
    unfold endP at h1 hi ⊢
    rw [closeF_length, List.length_append, List.length_singleton]
    omega
def HeadAt (q : Nat) (es : List S33) : Prop := ∃ e r, es = e :: r ∧ e.f3 = (q : Int)
theorem headAt_close (q : Nat) (es : List S33) (txt : List Int) (opn : Bool) (h : HeadAt q es) : HeadAt q (closeF es txt opn) := by
 obtain ⟨e, r, rfl, he⟩ := h
 unfold closeF
 cases opn with
 | false => exact ⟨e, r, rfl, he⟩
 | true =>
  rw [if_pos rfl]
  cases r with
  | nil => exact ⟨shutE e txt, [], rfl, by rw [shutE_at]; exact he⟩
  | cons x r =>
   rw [show (e :: x :: r).length - 1 = r.length + 1 by simp, List.set_cons_succ]
   exact ⟨e, _, rfl, he⟩
theorem headAt_fold (q : Nat) : ∀ (ps : List (Nat × Int)) (st : PSt), HeadAt q st.es → HeadAt q (endP (ps.foldl stepP st))
 | [], st, h => headAt_close q _ _ _ h
 | p :: ps, st, h => by
  rw [List.foldl_cons]
  refine headAt_fold q ps _ ?_
  unfold stepP
  split
  ·exact headAt_close q _ _ _ h
  ·split
   ·exact h
   ·obtain ⟨e, r, hr, he⟩ := headAt_close q _ st.txt st.opn h
    exact ⟨e, r ++ [newE p.2 p.1], by rw [hr]; rfl, he⟩
theorem split_at (ps1 : List (Nat × Int)) (q : Nat) (r : Int) (ps2 : List (Nat × Int)) (st : PSt) (k3 : stepP (ps1.foldl stepP st) (q, r) = pre (endP (ps1.foldl stepP st)) (stepP st0 (q, r))) :
  endP ((ps1 ++ (q, r) :: ps2).foldl stepP st) = endP (ps1.foldl stepP st) ++ endP (((q, r) :: ps2).foldl stepP st0) := by
 rw [List.foldl_append, List.foldl_cons, k3, fold_pre _ _ _ (stepP_ok _ _ okS0), endP_pre _ _ (fold_ok _ _ (stepP_ok _ _ okS0)), List.foldl_cons]
theorem parse_cut (S : List UInt8) (i : Nat) (hi : i < (parseL S).length) : ∃ q : Nat, ((parseL S).getD i z33).f3 = (q : Int) ∧ q < S.length ∧ parseL S = parseL (S.take q) ++ (parseL (S.drop q)).map (shiftE q) := by
 obtain ⟨ps1, q, r, ps2, e, k1, k2, k3, k4⟩ := decomp (rl 0 S) st0 okS0 i (Nat.zero_le _) hi
 obtain ⟨_, c2, hq, hqs⟩ := rl_cut ps1 0 q r ps2 S e
 rw [Nat.sub_zero] at c2 hq hqs
 have hL : parseL S = endP (ps1.foldl stepP st0) ++ endP (((q, r) :: ps2).foldl stepP st0) := by
  unfold parseL
  rw [e]
  exact split_at ps1 q r ps2 st0 k3
 have h1 : endP (ps1.foldl stepP st0) = parseL (S.take q) := by unfold parseL; rw [c2]
 have h2 : endP (((q, r) :: ps2).foldl stepP st0) = (parseL (S.drop q)).map (shiftE q) := by rw [← hq, parseL_at]
 have hnew : stepP st0 (q, r) = ⟨[newE r q], [], true⟩ := stepP_new k4 (fun h => by cases h.1)
 have hHead : HeadAt q (endP (((q, r) :: ps2).foldl stepP st0)) := by
  rw [List.foldl_cons, hnew]
  exact headAt_fold q ps2 _ ⟨_, _, rfl, rfl⟩
 obtain ⟨x, M', hM', hx⟩ := hHead
 refine ⟨q, ?_, hqs, by rw [hL, h1, h2]⟩
 rw [hL, List.getD_eq_getElem?_getD, List.getElem?_append_right (by omega), k1, Nat.sub_self, hM']
 exact hx
end Go.Proofs.YtgdoeoackhfikaaGreatDoor.G

namespace Go.Proofs.YtgdoeoackhfikaaGreatDoor
open Go.RowKit Go.Proofs.YtgdoeoackhfikaaGreatDoorW.PrintWords
set_option maxRecDepth 100000
set_option linter.unusedSimpArgs false
set_option linter.unusedVariables false
theorem Run.Inv.good {k : Nat} {σ : Run} (h : σ.Inv k) (es : List G.S33) (hk : k + es.length < 1000000) : ∀ a e b, es = a ++ e :: b → (σ.runs a).1.Few ∧ (σ.runs a).1.Steps (entOf e) := by
 intro a e b he
 have hl : es.length = a.length + (b.length + 1) := by rw [he]; simp
 have hi := h.runs a
 exact ⟨hi.few (by omega), hi.steps (by omega) _⟩
theorem runner_Run_ok (w : World) (hG : GG w) (B : RB) (σ : Run) (h : RunAt w B σ) (k : Nat) (hi : σ.Inv k) (s : ByteArray) (hk : k + s.size < 1000000) :
  Calls Tryz.prog 20 #[.pointer (some ⟨B.r, 0, none⟩), .string s] w fun e w' => ∃ v : Value, e = .returned v ∧ w'.ownsRow w.heap.size 27 1 v (parseF s).length (nums .i64 (σ.runs (parseF s)).2) ∧ ∃ B', B.Like B' ∧ RunAt w' B' (σ.runs (parseF s)).1 ∧ Kp B.all w w' ∧ (∀ k, B'.all k → B.all k ∨ w.heap.size ≤ k) ∧ (∀ k, v.ownBlock = some k → ¬ B'.all k) := by
 have hl := parseF_len s
 exact runner_Run w hG B σ h s (by omega) (hi.good _ (by omega)) (parseF_range s) (by omega)
end Go.Proofs.YtgdoeoackhfikaaGreatDoor

namespace Go.Proofs.YtgdoeoackhfikaaGreatDoor
open Go.RowKit Go.Proofs.YtgdoeoackhfikaaGreatDoorW.PrintWords
set_option maxRecDepth 100000
set_option linter.unusedSimpArgs false
set_option linter.unusedVariables false
theorem step_calls {P : Program} {ops : Array Oper} {o : Oper} {a : Act} {w : World} {K : Act → World → Prop} {Q : Exit → Act → World → Prop} {E : Prop}
  (hg : o.guard = none) (f : FuncId) (fn : Func) (hf : P.funcs[f]? = some fn) (hn : (fn.name == "runtime.NumGoroutine") = false) (hb : fn.body.isNone = false) (args : Array Operand) (tys : Array TypeId) (hop : o.op = Op.call { callee := Callee.value (Operand.func f), args := args, argTypes := tys })
  (vals : Array Value) (hv : args.map a.eval = vals) (R : Ending → World → Prop) (hC : Calls P f vals w R) (hK : ∀ e w', R e w' → ∃ v, e = .returned v ∧ K (a.put o.dst v) w') :
  if Region.wanted o (yielded ops a.tmps) = true then Oper.wp P o a w K Q else E := by
 have hw : Region.wanted o (yielded ops a.tmps) = true := by simp [Region.wanted, hg]
 rw [if_pos hw]
 unfold Oper.wp
 have hn' : fn.name ≠ "runtime.NumGoroutine" := beq_eq_false_iff_ne.1 hn
 have hb' : fn.body ≠ none := fun e => by rw [e] at hb; cases hb
 have hx : (execOp a.eval o).run P w = .ok (.enter f vals) w := by
  subst hv
  simp [execOp, hop, resolve, invoke, Act.eval, Result.andThen, Deferred.ofValue, callFunc, hf, hn', hb']
 rw [hx, Oper.upon_enter]
 refine hC.mono ?_
 intro e w' hr
 obtain ⟨v, rfl, hk⟩ := hK e w' hr
 exact hk
theorem step_calls2 {P : Program} {ops : Array Oper} {o : Oper} {a : Act} {w : World} {K : Act → World → Prop} {Q : Exit → Act → World → Prop} {E : Prop}
  (hg : o.guard = none) (f : FuncId) (fn : Func) (hf : P.funcs[f]? = some fn) (hn : (fn.name == "runtime.NumGoroutine") = false) (hb : fn.body.isNone = false) (x y : Operand) (tys : Array TypeId) (hop : o.op = Op.call { callee := Callee.value (Operand.func f), args := #[x, y], argTypes := tys })
  (u v : Value) (hx : a.eval x = u) (hy : a.eval y = v) (R : Ending → World → Prop) (hC : Calls P f #[u, v] w R) (hK : ∀ e w', R e w' → ∃ v, e = .returned v ∧ K (a.put o.dst v) w') :
  if Region.wanted o (yielded ops a.tmps) = true then Oper.wp P o a w K Q else E :=
 step_calls hg f fn hf hn hb #[x, y] tys hop #[u, v] (by simp [hx, hy]) R hC hK
theorem own_empty {w : World} {g : Nat} {e : TypeId} (size : Nat) (h : w.heap[g]? = some (.cells #[] e (0, 0))) : w.ownsRow 0 e size (.slice (some ⟨g, 0, none⟩) 0 0) 0 [] :=
 ⟨by simp, .inr ⟨g, 0, #[], rfl, Nat.zero_le _, h, Nat.le_refl _, by unfold maxLen; omega, by simp, by simp⟩⟩
theorem row_news {w : World} {base : Nat} {e : TypeId} {A : Option Addr} {n c : Nat} {xs : List Value} (h : w.ownsRow base e 1 (.slice A n c) n xs) : (∀ ad, A = some ad → ∀ j u, xs[j]? = some u → w.cell? (ad.add j) = some u) ∧ (0 < n → A ≠ none) ∧ n ≤ c := by
 obtain ⟨hl, h2⟩ := h
 rcases h2 with ⟨hv, h0⟩ | ⟨g, cap, cur, hv, hg, hh, hnc, hcm, hcs, hct⟩
 ·injection hv with e1 e2 e3
  exact ⟨fun ad hA => (by rw [e1] at hA; cases hA), fun hp => (by omega), (by omega)⟩
 ·injection hv with e1 e2 e3
  subst e1
  refine ⟨fun ad hA j u hj => ?_, fun _ h => (by cases h), (by omega)⟩
  obtain rfl := Option.some.inj hA
  have hadd : (⟨g, 0, none⟩ : Addr).add j = ⟨g, j, none⟩ := by unfold Addr.add; split <;> simp_all
  rw [hadd, (obj_cells hh).1 j]
  rw [← hct, List.getElem?_take] at hj
  split at hj
  ·simpa using hj
  ·cases hj
theorem step_append_any {P : Program} {ops : Array Oper} {o : Oper} {a : Act} {w : World} {K : Act → World → Prop} {Q : Exit → Act → World → Prop} {E : Prop} (hgd : o.guard = none) (s x : Operand) (t : TypeId)
  (ho : o.op = .call { callee := .builtin .append, args := #[s, x], argTypes := #[t, t] })
  (base : Nat) (e : TypeId) (i : TypeInfo) (z : Value) (size bytes : Nat) (ht : P.underlying t = some (.slice e)) (hi : P.info? e = some i) (hz : i.zero = some z)
  (hsize : i.size = size) (hby : i.bytes = bytes) (hzs : z.cells.size = size) (hsz : 0 < size)
  (sb : Option Addr) (sc : Nat) (n : Nat) (xs : List Value) (hs : a.eval s = .slice sb n sc) (hown : w.ownsRow base e size (.slice sb n sc) n xs)
  (A : Option Addr) (m c : Nat) (news : List Value) (hx : a.eval x = .slice A m c) (hl : news.length = m * size) (hnews : ∀ ad, A = some ad → ∀ j u, news[j]? = some u → w.cell? (ad.add j) = some u) (hA : 0 < m → A ≠ none) (hmc : m ≤ c) (h1 : ∀ u ∈ news, u.oneCell' = true)
  (N : Nat) (hN : n + m = N) (h63 : n + m ≤ maxLen) (hbytes : (n + m) * bytes ≤ 140737488355328) (hbase : base ≤ w.heap.size)
  (h : ∀ sb' cap w', w'.ownsRow base e size (.slice sb' N cap) N (xs ++ news) → w.grownBy w' (Value.slice sb n sc).ownBlock → (∀ k, (Value.slice sb' N cap).ownBlock = some k → (Value.slice sb n sc).ownBlock = some k ∨ w.heap.size ≤ k) → K (a.put o.dst (.slice sb' N cap)) w') :
  if Region.wanted o (yielded ops a.tmps) = true then Oper.wp P o a w K Q else E := by
 subst hN
 by_cases hm : m = 0
 ·subst hm
  have hnil : news = [] := List.eq_nil_of_length_eq_zero (by simpa using hl)
  subst hnil
  have hw : Region.wanted o (yielded ops a.tmps) = true := by simp [Region.wanted, hgd]
  rw [if_pos hw]
  have hle : n ≤ sc := by
   rcases hown.2 with ⟨hv, h0⟩ | ⟨g, cap, cur, hv, _, _, hnc, _⟩
   ·injection hv with e1 e2 e3; omega
   ·injection hv with e1 e2 e3; omega
  have hrun : (Builtin.append_ #[t, t] o.type #[.slice sb n sc, .slice A 0 c]).run P w = .ok (.slice sb n sc) w := by
   cases sb <;> cases A <;> simp [Builtin.append_, run_underlying ht, sizeOf, typeInfo, hi, hle, hmc, storeCells, go_sem]
  unfold Oper.wp
  simp [execOp, ho, resolve, invoke, builtin, hs, hx, hrun, Result.andThen]
  have := h sb sc w (by simpa using hown) (World.grownBy.refl _ _) (fun k hk => .inl hk)
  exact this
 ·obtain ⟨ad, rfl⟩ : ∃ ad, A = some ad := by
   cases A with
   | none => exact absurd rfl (hA (by omega))
   | some ad => exact ⟨ad, rfl⟩
  refine step_append_lies w hgd s x t ho base e i z size bytes ht hi hz hsize hby hzs hsz _ n xs hs hown ad m c news hx hl (hnews ad rfl) h1 (by omega) h63 hbytes hbase _ rfl (fun g cap w' h2 h3 h4 h5 => h _ _ _ h2 h3 (fun k hk => ?_))
  injection hk with hk
  have hk : g = k := hk
  subst hk
  exact h4.imp id (fun e => Nat.le_of_eq e.symm)
end Go.Proofs.YtgdoeoackhfikaaGreatDoor

namespace Go.Proofs.YtgdoeoackhfikaaGreatDoor
open Go.RowKit Go.Proofs.YtgdoeoackhfikaaGreatDoorW.PrintWords
set_option maxRecDepth 100000
set_option maxHeartbeats 40000000
set_option linter.unusedSimpArgs false
set_option linter.unusedVariables false
attribute [local go_sem] hs_other hs_alloc hs_falloc
attribute [local go_sem ↓] Go.wp_at_zero Go.wp_at_succ
theorem parse_two (s : ByteArray) (es : List G.S33) (hes : es = parseF s) (q : Nat) (hq : q < es.length) : ∃ p : Nat, (es.getD q G.z33).f3 = (p : Int) ∧ p ≤ s.size ∧ es = parseF (s.extract 0 p) ++ (parseF (s.extract p s.size)).map (G.shiftE p) := by
 subst hes
 rw [G.parseF_L] at hq ⊢
 obtain ⟨p, h1, h2, h3⟩ := G.parse_cut s.data.toList q hq
 have hsz : s.data.toList.length = s.size := by simp
 refine ⟨p, h1, by omega, ?_⟩
 rw [G.parseF_L, G.parseF_L]
 have e1 : (s.extract 0 p).data.toList = s.data.toList.take p := by simp
 have e2 : (s.extract p s.size).data.toList = s.data.toList.drop p := by
  simp only [ByteArray.data_extract, Array.toList_extract]
  exact List.take_of_length_le (by simp)
 rw [e1, e2]
 exact h3
theorem runs_mid {w9 w10 w11 : World} {B1 B2 B3 : RB} {x1 y1 : Run} {N6 g m : Nat} {v9 sb : Value} {xs : List Value} (hd : ∀ k, B2.all k → ¬ B1.all k) (hB2 : ∀ k, B2.all k → k < N6) (h1 : RunAt w9 B1 x1) (hr9 : ∀ k, v9.ownBlock = some k → N6 ≤ k ∧ k < w9.heap.size ∧ ¬ B1.all k) (hrow : w9.ownsRow 0 27 1 v9 m xs) (h69 : N6 ≤ w9.heap.size)
  (z2 : RunAt w10 B3 y1) (hk : Kp B2.all w9 w10) (z4 : ∀ k, B3.all k → B2.all k ∨ w9.heap.size ≤ k) (K : Kp (fun k => k = g) w10 w11) (hg : w9.heap.size ≤ g) (hgB : ¬ B3.all g) (hat : ∀ k, sb.ownBlock = some k → k = g ∨ w10.heap.size ≤ k) :
  RunAt w11 B1 x1 ∧ RunAt w11 B3 y1 ∧ (∀ k, B3.all k → ¬ B1.all k) ∧ w11.ownsRow 0 27 1 v9 m xs ∧ Kp B2.all w9 w11 ∧ (∀ k, B3.all k → B2.all k ∨ w9.heap.size ≤ k) ∧ (∀ k, sb.ownBlock = some k → w9.heap.size ≤ k ∧ ¬ B3.all k ∧ ¬ B1.all k) := by
 have s := hk.size
 refine ⟨(h1.kept hk (fun k h e => hd k e h)).kept K (fun k h e => ?_), z2.kept K (fun k h e => hgB (e ▸ h)), fun k h e => ?_, K.row (hk.row hrow (fun k h e => ?_)) (fun k h e => ?_), hk.comp K (fun k hlt e => ?_), z4, fun k h => ?_⟩
 ·have := h1.all_lt h; omega
 ·rcases z4 k h with h' | h'
  ·exact hd k h' e
  ·have := h1.all_lt e; omega
 ·have := hB2 k e; have := (hr9 k h).1; omega
 ·have := (hr9 k h).2.1; omega
 ·omega
 ·rcases hat k h with rfl | h'
  ·exact ⟨hg, hgB, fun e => by have := h1.all_lt e; omega⟩
  ·exact ⟨by omega, fun e => by have := z2.all_lt e; omega, fun e => by have := h1.all_lt e; omega⟩
theorem parse_none : parseF ByteArray.empty = [] := by decide +kernel
theorem runs_walk (nodes slots budget threads at_ : Int) (r0 : -9223372036854775808 ≤ nodes ∧ nodes ≤ 9223372036854775807) (r1 : -9223372036854775808 ≤ slots ∧ slots ≤ 9223372036854775807) (r2 : -9223372036854775808 ≤ budget ∧ budget ≤ 9223372036854775807) (r4 : -9223372036854775808 ≤ threads ∧ threads ≤ 9223372036854775807) (r5 : -9223372036854775808 ≤ at_ ∧ at_ ≤ 9223372036854775807) (s : ByteArray) (w : World) (hG : GG w) :
  Calls Tryz.prog 4 #[.int .i64 nodes, .int .i64 slots, .int .i64 budget, .int .i64 threads, .string s, .int .i64 at_] w fun e w' => e = .returned (.bool true) ∧ Below w.heap.size w w' := by
 obtain ⟨c, hc, hw, htg, q1, q2, q3, hcf⟩ := config_ok nodes slots budget 7 r0 r1 r2 (by decide)
 clear q1 q2 q3
 obtain ⟨ρ, p0, p8, hpick⟩ := pick_ok threads r4 8 (by decide)
 obtain ⟨n, hnz⟩ : ∃ n : Nat, (n : Int) = 1 + ρ := ⟨(1 + ρ).toNat, by omega⟩
 have hn : 1 ≤ n ∧ n ≤ 8 := by omega
 have hwr : IntKind.i64.wrap (1 + ρ) = (n : Int) := by rw [wrap_small _ (by omega), hnz]
 have hwr2 : wrap64 (1 + ρ) = (n : Int) := by unfold wrap64; omega
 clear hnz
 obtain ⟨ws, hwl, hstk⟩ := stack_made c hc hw (by rw [htg]; decide)
 have HCF := Lib.hid hcf
 have HPK := Lib.hid hpick
 have hst := hstk n hn
 unfold ECfg.v at hst
 have HST := Lib.hid hst
 have HWL := Lib.hid hwl
 have HC := Lib.hid hc
 clear hcf hst hstk hwl hpick hc hw htg
 go_enter Tryz.func4, Tryz.ntmps4
 go_wp2_with fail
 refine (shown_walk w hG).mono ?_
 rintro e w1 ⟨rfl, hb1⟩
 have hk1 : Kp (fun _ => False) w w1 := Kp.nb hb1
 clear hb1
 go_wp2_with fail
 refine (G.hatstandlaw17_config.calls _ _ _ _ _ _ _ _ _ _ _ w1 HCF.out).mono ?_
 rintro e w2 ⟨rfl, hb2⟩
 have hk2 : Kp (fun _ => False) w w2 := hk1.also (Kp.nb hb2)
 clear hb2
 go_wp2_with fail
 refine any_world (p := fun W => Calls Tryz.prog _ _ W _) ?_
 intro w3 hW3
 have hk3 : Kp (fun _ => False) w w3 := by rw [hW3]; exact hk2.alloc _
 have hO3 : w3.heap[w2.heap.size]? = some (.cells #[.int .i64 c.l.nodes, .int .i64 c.l.slots, .int .i64 c.l.holders, .int .u32 c.l.tag, .int .i64 c.budget, .int .i64 c.base, .int .u64 c.wait] 35 (0, 0)) := by rw [hW3]; exact hp_new _ _ _ rfl
 clear hW3
 refine (G.hatstandlaw17_pick.calls threads 8 ρ w3 HPK.out).mono ?_
 rintro e w4 ⟨rfl, hdr⟩
 obtain ⟨nd, hdr⟩ := hdr.out
 have hk34 : Kp (fun _ => False) w3 w4 := by rw [hdr]; exact (Kp.refl _ _).drewN nd
 have hk4 : Kp (fun _ => False) w w4 := hk3.also hk34
 have hO4 := hk34.heap hO3 (fun e => e)
 clear hdr hk34
 have a0 : w4.cell? ⟨w2.heap.size, 0, none⟩ = some (.int .i64 c.l.nodes) := (obj_cells hO4).1 0
 have a1 : w4.cell? ⟨w2.heap.size, 1, none⟩ = some (.int .i64 c.l.slots) := (obj_cells hO4).1 1
 have a2 : w4.cell? ⟨w2.heap.size, 2, none⟩ = some (.int .i64 c.l.holders) := (obj_cells hO4).1 2
 have a3 : w4.cell? ⟨w2.heap.size, 3, none⟩ = some (.int .u32 c.l.tag) := (obj_cells hO4).1 3
 have a4 : w4.cell? ⟨w2.heap.size, 4, none⟩ = some (.int .i64 c.budget) := (obj_cells hO4).1 4
 have a5 : w4.cell? ⟨w2.heap.size, 5, none⟩ = some (.int .i64 c.base) := (obj_cells hO4).1 5
 have a6 : w4.cell? ⟨w2.heap.size, 6, none⟩ = some (.int .u64 c.wait) := (obj_cells hO4).1 6
 go_wp2_with fail
 clear hwr hwr2
 refine (HST.out w4).mono ?_
 rintro e w5 ⟨B1, rfl, hR1, hk45, hf1⟩
 have hk5 : Kp (fun _ => False) w w5 := hk4.also hk45
 have HR1 := Lib.hid hR1
 clear hR1
 have hO5 := hk45.heap hO4 (fun e => e)
 clear a0 a1 a2 a3 a4 a5 a6
 have a0 : w5.cell? ⟨w2.heap.size, 0, none⟩ = some (.int .i64 c.l.nodes) := (obj_cells hO5).1 0
 have a1 : w5.cell? ⟨w2.heap.size, 1, none⟩ = some (.int .i64 c.l.slots) := (obj_cells hO5).1 1
 have a2 : w5.cell? ⟨w2.heap.size, 2, none⟩ = some (.int .i64 c.l.holders) := (obj_cells hO5).1 2
 have a3 : w5.cell? ⟨w2.heap.size, 3, none⟩ = some (.int .u32 c.l.tag) := (obj_cells hO5).1 3
 have a4 : w5.cell? ⟨w2.heap.size, 4, none⟩ = some (.int .i64 c.budget) := (obj_cells hO5).1 4
 have a5 : w5.cell? ⟨w2.heap.size, 5, none⟩ = some (.int .i64 c.base) := (obj_cells hO5).1 5
 have a6 : w5.cell? ⟨w2.heap.size, 6, none⟩ = some (.int .u64 c.wait) := (obj_cells hO5).1 6
 go_wp2_with fail
 refine (HST.out w5).mono ?_
 rintro e w6 ⟨B2, rfl, hR2, hk56, hf2⟩
 have hk6 : Kp (fun _ => False) w w6 := hk5.also hk56
 have HR2 := Lib.hid hR2
 have hR1 := HR1.out.kept hk56 (fun _ _ e => e)
 have hdis : ∀ k, B1.all k → ¬ B2.all k := fun k h1 h2 => by
  have := HR1.out.all_lt h1
  have := hf2 k h2
  omega
 have HR1 := Lib.hid hR1
 clear hR1 hR2 a0 a1 a2 a3 a4 a5 a6
 rcases Nat.lt_or_ge 2000 s.size with hs | hs
 ·have hd : decide (2000 < (s.size : Int)) = true := decide_eq_true (by omega)
  go_wp2
  go_ret
  exact ⟨rfl, hk6.blw⟩
 have hd : decide (2000 < (s.size : Int)) = false := decide_eq_false (by omega)
 have hI0 := newRun_inv c HC.out n ws
 generalize hσ : newRun c n ws = σ at *
 have hq1 := runner_Sched w6 B1 σ HR1.out
 have hq2 := runner_Sched w6 B2 σ HR2.out
 go_wp2_with fail
 refine (hq1).mono ?_
 rintro e w7 ⟨rfl, hww7⟩
 obtain rfl : w6 = w7 := by first | exact hww7.symm | exact hww7
 go_wp2_with fail
 refine (hq2).mono ?_
 rintro e w7 ⟨rfl, hww7⟩
 obtain rfl : w6 = w7 := by first | exact hww7.symm | exact hww7
 have hpa := G.glyph_Parse.calls s (parseF s) w6 (GG_at hG hk6.blw) (by unfold G.glyph_Parse.f; rw [if_pos (by omega)])
 obtain ⟨es, hes⟩ : ∃ es, es = parseF s := ⟨_, rfl⟩
 have hlen : es.length ≤ 2000 := by rw [hes]; exact Nat.le_trans (parseF_len s) hs
 rw [← hes] at hpa
 have HES := Lib.hid hes
 have HLEN := Lib.hid hlen
 have HI0 := Lib.hid hI0
 clear hlen hes hI0 hσ hq1 hq2
 go_wp2_with fail
 refine hpa.mono ?_
 rintro e w7 ⟨v0, rfl, hN, hb7⟩
 obtain ⟨A, c0, rfl⟩ := Kd.N_slice hN
 have hk67 : Kp (fun _ => False) w6 w7 := Kp.nb hb7
 have HN7 := Lib.hid hN
 have HRA := Lib.hid (HR1.out.kept hk67 (fun _ _ e => e))
 have HRB := Lib.hid (HR2.out.kept hk67 (fun _ _ e => e))
 have hk7 : Kp (fun _ => False) w w7 := hk6.also hk67
 have s67 := hk67.size
 clear hN hb7 hpa
 by_cases hl0 : es.length = 0
 ·have hdl : decide (0 < (es.length : Int)) = false := decide_eq_false (by omega)
  have hcut : ∃ p : Nat, p ≤ s.size ∧ s.size ≤ 2000 ∧ ByteArray.empty.size ≤ 2000 ∧ es = parseF s ++ (parseF ByteArray.empty).map (G.shiftE p) := ⟨s.size, Nat.le_refl _, hs, by decide, by rw [parse_none, HES.out]; simp⟩
  have hkW := hk7
  have hk7W := Kp.refl (fun _ => False) w7
  have hdl2 : decide (0 < es.length) = false := decide_eq_false (by omega)
  have hdl3 : (0 < es.length) = False := eq_false (by omega)
  have HL0 := Lib.hid hl0
  clear hl0
  have hrunA := runner_Run_ok w7 (GG_at hG hkW.blw) B1 σ (HRA.out.kept hk7W (fun _ _ e => e)) 0 HI0.out s (by omega)
  rw [← HES.out] at hrunA
  obtain ⟨X, hX⟩ : ∃ X, X = σ.runs es := ⟨_, rfl⟩
  rw [← hX] at hrunA
  have HX := Lib.hid hX
  clear hX
  go_wp2_with fail
  refine hrunA.mono ?_
  rintro e w9 ⟨v9, rfl, hro9, B1', y1, y2, y3, y4, y5⟩
  obtain ⟨A9, c9, rfl⟩ := row_slice hro9
  obtain ⟨hRb9, hd9⟩ := (HRB.out.kept hk7W (fun _ _ e => e)).beside y3 (fun k h1 h2 => hdis k h2 h1) y4
  have HY2 := Lib.hid y2
  have HRB9 := Lib.hid hRb9
  have HRO9 := Lib.hid hro9
  clear hrunA y2 hRb9 hro9
  obtain ⟨p, hps, hs1, hs2, hesab⟩ := hcut
  obtain ⟨ea, hea⟩ : ∃ ea, ea = parseF s := ⟨_, rfl⟩
  obtain ⟨eb, heb⟩ : ∃ eb, eb = parseF ByteArray.empty := ⟨_, rfl⟩
  rw [← hea, ← heb] at hesab
  have hab : ea.length + eb.length = es.length := by rw [hesab]; simp
  have hI1 := HI0.out.runs ea
  have hXY : X = (((σ.runs ea).1.runs eb).1, (σ.runs ea).2 ++ ((σ.runs ea).1.runs eb).2) := by rw [HX.out, hesab, Run.runs_append, runs_at _ (G.shiftE p) (fun e => ⟨rfl, rfl, rfl⟩)]
  have hYl := runs_len σ ea
  have hZl := runs_len (σ.runs ea).1 eb
  have hsz1 : s.size ≤ 2000 := hs1
  have hsz2 : ByteArray.empty.size ≤ 2000 := hs2
  have hrun1 := fun V (hk : Kp (fun _ => False) w9 V) => runner_Run_ok V (GG_at hG ((hkW.comp y3 (fun k hk e => by have := hf1 k e; have := hk4.size; omega)).also hk).blw) B2 σ (HRB9.out.kept hk (fun _ _ e => e)) 0 HI0.out s (by omega)
  rw [← hea] at hrun1
  have hlenes := HLEN.out
  generalize hY : σ.runs ea = Y at *
  obtain ⟨Z, hZ⟩ : ∃ Z, Z = Y.1.runs eb := ⟨_, rfl⟩
  rw [← hZ] at hXY hZl
  have hB2 : ∀ k, B2.all k → k < w6.heap.size := fun k hk => HR2.out.all_lt hk
  have sW : w6.heap.size ≤ w7.heap.size := by have := hk7W.size; omega
  have hwz : Kp (fun _ => False) w w9 := hkW.comp y3 (fun k hk e => by have := hf1 k e; have := hk4.size; omega)
  have hrow9 : ∀ k, (Value.slice A9 es.length c9).ownBlock = some k → w6.heap.size ≤ k ∧ k < w9.heap.size ∧ ¬ B1'.all k := fun k e => ⟨by have := (HRO9.out.lt k e).1; omega, (HRO9.out.lt k e).2, y5 k e⟩
  have hmid := fun (w10 w11 : World) (B3 : RB) (g : Nat) (sb : Value) (z2 : RunAt w10 B3 Y.1) (hk : Kp B2.all w9 w10) (z4 : ∀ k, B3.all k → B2.all k ∨ w9.heap.size ≤ k) (K : Kp (fun k => k = g) w10 w11) (hg : w9.heap.size ≤ g) (hgB : ¬ B3.all g) (hat : ∀ k, sb.ownBlock = some k → k = g ∨ w10.heap.size ≤ k) => runs_mid hd9 hB2 HY2.out hrow9 (row_base HRO9.out (Nat.zero_le _)) (by have := y3.size; omega) z2 hk z4 K hg hgB hat
  have hrun2 := fun (w11 : World) (B3 : RB) (hR3 : RunAt w11 B3 Y.1) (hk : Kp B2.all w9 w11) => runner_Run_ok w11 (GG_at hG (hwz.comp hk (fun k hk e => by have := hf2 k e; have := hk5.size; omega)).blw) B3 Y.1 hR3 _ hI1 ByteArray.empty (by omega)
  rw [← heb, ← hZ] at hrun2
  have hempty := fun (w10 : World) (hk : Kp B2.all (w9.alloc (.cells #[] 27)).drew w10) => (show w10.heap[w9.heap.size]? = some (.cells #[] 27 (0, 0)) from hk.heap (show (w9.alloc (.cells #[] 27)).drew.heap[w9.heap.size]? = _ from hp_new _ _ _ rfl) (fun e => by have := hB2 _ e; have := y3.size; omega))
  have hone1 : ∀ u ∈ nums .i64 Y.2, u.oneCell' = true := by simp [nums, Value.oneCell']
  have hone2 : ∀ u ∈ nums .i64 Z.2, u.oneCell' = true := by simp [nums, Value.oneCell']
  have hnl1 : (nums .i64 Y.2).length = ea.length * 1 := by simp [nums, hYl]
  have hnl2 : (nums .i64 Z.2).length = eb.length * 1 := by simp [nums, hZl]
  obtain ⟨i0, hi, hz0, hz1, hz2⟩ := info_parts info_errno
  have RUN1 := Lib.hid hrun1
  have RUN2 := Lib.hid hrun2
  have MID := Lib.hid hmid
  have EMP := Lib.hid hempty
  have HXY := Lib.hid hXY
  have s9 := y3.size
  have HROW := Lib.hid hrow9
  have HIZ : Hid (Z.1.Inv 2000) := Lib.hid (by rw [hZ]; exact (hI1.runs eb).mono (by omega))
  clear hrun1 hrun2 hmid hempty hXY hea heb hesab hY hZ hYl hZl hI1 hrow9
  go_wp2_with fail
  go_region_law (first
   | (refine step_calls2 rfl 20 Tryz.f20 Tryz.func20 (by kernel_rfl) rfl (.tmp 110) (.tmp 113) _ rfl (.pointer (some ⟨B2.r, 0, none⟩)) (.string s) (by kernel_rfl) (by kernel_rfl) _ (RUN1.out _ (by first | exact (Kp.refl _ _).drew | exact ((Kp.refl _ _).alloc _).drew)) ?_; rintro e w10 ⟨v10, rfl, hro10, B3, z1, z2, z3, z4, z5⟩; obtain ⟨A10, c10, rfl⟩ := row_slice hro10; refine ⟨_, rfl, ?_⟩)
   | (refine step_append_any rfl (.tmp 109) (.tmp 114) 50 rfl 0 27 i0 (.int .i64 0) 1 8 Tryz.underlying50 hi hz0 hz1 hz2 rfl (by decide) (some ⟨w9.heap.size, 0, none⟩) 0 0 [] (by kernel_rfl) (own_empty 1 (EMP.out _ z3)) A10 ea.length c10 (nums .i64 Y.2) (by kernel_rfl) hnl1 (row_news hro10).1 (row_news hro10).2.1 (row_news hro10).2.2 hone1 ea.length (Nat.zero_add _) (by unfold maxLen; omega) (by omega) (Nat.zero_le _) ?_; intro sb11 cap11 w11 hro11 hgr11 hat11; have hm11 := MID.out w10 w11 B3 w9.heap.size _ z2 (Kp.mono (S := fun _ => False) ((Kp.refl _ _).alloc _).drew (fun _ e => e.elim) |>.comp z3 (fun _ _ e => e)) (fun k e => (z4 k e).imp id (fun e => by simp at e; omega)) ((Kp.refl _ _).grown hgr11 (fun k _ e => (Option.some.inj e).symm)) (Nat.le_refl _) (fun e => by rcases z4 _ e with h | h; exact absurd (hB2 _ h) (by omega); exact absurd (show w9.heap.size + 1 ≤ w9.heap.size from by simpa using h) (by omega)) (fun k e => (hat11 k e).imp (fun e => (Option.some.inj e).symm) id); have hr2 := RUN2.out w11 B3 hm11.2.1 hm11.2.2.2.2.1; rw [z1.r] at hr2)
   | (refine step_append_any rfl (.tmp 109) (.tmp 114) 50 rfl 0 27 i0 (.int .i64 0) 1 8 Tryz.underlying50 hi hz0 hz1 hz2 rfl (by decide) (some ⟨w10.heap.size, 0, none⟩) 0 0 [] (by kernel_rfl) (own_empty 1 (hp_new _ _ _ rfl)) A10 ea.length c10 (nums .i64 Y.2) (by kernel_rfl) hnl1 (row_news (row_alloc hro10 _)).1 (row_news hro10).2.1 (row_news hro10).2.2 hone1 ea.length (Nat.zero_add _) (by unfold maxLen; omega) (by omega) (Nat.zero_le _) ?_; intro sb11 cap11 w11 hro11 hgr11 hat11; have hm11 := MID.out w10 w11 B3 w10.heap.size _ z2 (Kp.mono (S := fun _ => False) (Kp.refl _ _).drew (fun _ e => e.elim) |>.comp z3 (fun _ _ e => e)) z4 (((Kp.refl _ _).alloc _).grown hgr11 (fun k _ e => (Option.some.inj e).symm)) z3.size (fun e => Nat.lt_irrefl _ (z2.all_lt e)) (fun k e => (hat11 k e).imp (fun e => (Option.some.inj e).symm) (fun e => by simp at e; omega)); have hr2 := RUN2.out w11 B3 hm11.2.1 hm11.2.2.2.2.1; rw [z1.r] at hr2)
   | (refine step_calls2 rfl 20 Tryz.f20 Tryz.func20 (by kernel_rfl) rfl (.tmp 116) (.tmp 119) _ rfl (.pointer (some ⟨B2.r, 0, none⟩)) (.string ByteArray.empty) (by kernel_rfl) (by kernel_rfl) _ hr2 ?_; rintro e w12 ⟨v12, rfl, hro12, B4, x1, x2, x3, x4, x5⟩; obtain ⟨A12, c12, rfl⟩ := row_slice hro12; have hro11b := x3.row hro11 (fun k e => (hm11.2.2.2.2.2.2 k e).2.1); refine ⟨_, rfl, ?_⟩)
   | (refine step_append_any rfl (.tmp 115) (.tmp 120) 50 rfl 0 27 i0 (.int .i64 0) 1 8 Tryz.underlying50 hi hz0 hz1 hz2 rfl (by decide) sb11 cap11 ea.length _ (by kernel_rfl) hro11b A12 eb.length c12 (nums .i64 Z.2) (by kernel_rfl) hnl2 (row_news hro12).1 (row_news hro12).2.1 (row_news hro12).2.2 hone2 es.length hab (by unfold maxLen; omega) (by omega) (Nat.zero_le _) ?_; intro sb13 cap13 w13 hro13 hgr13 hat13))
  all_goals
   obtain ⟨m1, m2, m3, m4, m5, m6, m7⟩ := hm11
   have K1213 : Kp (fun k => (Value.slice sb11 ea.length cap11).ownBlock = some k) w12 w13 := (Kp.refl _ _).grown hgr13 (fun k _ e => e)
   have hlt11 : ∀ k, (Value.slice sb11 ea.length cap11).ownBlock = some k → k < w11.heap.size := fun k e => (hro11.lt k e).2
   have RA13 : RunAt w13 B1' X.1 := (m1.kept x3 (fun k h e => m3 k e h)).kept K1213 (fun k h e => (m7 k e).2.2 h)
   have RB13 : RunAt w13 B4 Z.1 := x2.kept K1213 (fun k h e => by
    rcases x4 k h with h' | h'
    ·exact (m7 k e).2.1 h'
    ·have := hlt11 k e; omega)
   have r9 : w13.ownsRow 0 27 1 (.slice A9 es.length c9) es.length (nums .i64 X.2) := K1213.row (x3.row m4 (fun k h e => by
    have h1 := HROW.out k h
    rcases m6 k e with h' | h'
    ·have := hB2 k h'; omega
    ·omega)) (fun k h e => by
    have h1 := HROW.out k h
    have h2 := (m7 k e).1
    omega)
   have K913 : Kp B2.all w9 w13 := (m5.comp x3 (fun k hk e => by
    rcases m6 k e with h' | h'
    ·exact h'
    ·omega)).comp K1213 (fun k hk e => by have := (m7 k e).1; omega)
   have hfin13 : Kp (fun _ => False) w w13 := hwz.comp K913 (fun k hk e => by have := hf2 k e; have := hk5.size; omega)
   have hX1 : X.1 = Z.1 := by rw [HXY.out]
   have hX2 : nums .i64 X.2 = nums .i64 Y.2 ++ nums .i64 Z.2 := by rw [HXY.out]; simp [nums]
   rw [hX1] at RA13
   have hro13b := hro13
   rw [List.nil_append, ← hX2] at hro13b
   have hB4r : B4.r = B2.r := x1.r.trans z1.r
   have hXl : X.2.length = es.length := by
    have h1 := r9.1
    simp [nums] at h1
    exact h1
   have HRA13 := Lib.hid RA13
   have HRB13 := Lib.hid RB13
   have HR9 := Lib.hid r9
   have HR13 := Lib.hid hro13b
   have HXL := Lib.hid hXl
   clear m1 m2 m3 m4 m5 m6 m7 K1213 hlt11 RA13 RB13 r9 K913 hX1 hX2 hro13 hro13b hgr13 hat13 hro11 hgr11 hat11 hr2 hro12 hro11b x2 x3 x4 x5 hXl
   go_wp2_with fail
   refine wp_world ?_
   intro W0 hW0
   obtain rfl : w13 = W0 := hW0.symm
   go_loopw [26] (fun i wr => ∃ j : Nat, j ≤ es.length ∧ i = .int .i64 j ∧ Kp (fun _ => False) w13 wr) (fun i _ => es.length - (intOf i).toNat)
   case atStart => exact ⟨0, by omega, rfl, Kp.refl _ _⟩
   case round =>
    obtain ⟨j, hj, rfl, hkr⟩ := hrel
    have hr9 := hkr.row HR9.out (fun _ _ e => e)
    have hr13 := hkr.row HR13.out (fun _ _ e => e)
    by_cases hlt : j < es.length
    ·have hdj1 : decide ((j : Int) < (es.length : Int)) = true := decide_eq_true (by omega)
     obtain ⟨n1, n2, n3⟩ := row_news hr9
     obtain ⟨o1, o2, o3⟩ := row_news hr13
     obtain ⟨ad9, rfl⟩ : ∃ ad, A9 = some ad := by
      cases h : A9 with
      | none => exact absurd h (n2 (by omega))
      | some ad => exact ⟨ad, rfl⟩
     obtain ⟨ad13, rfl⟩ : ∃ ad, sb13 = some ad := by
      cases h : sb13 with
      | none => exact absurd h (o2 (by omega))
      | some ad => exact ⟨ad, rfl⟩
     have hlx : j < X.2.length := by rw [HXL.out]; exact hlt
     obtain ⟨zj, hzj⟩ : ∃ zj, X.2[j]? = some zj := ⟨_, List.getElem?_eq_getElem hlx⟩
     have hnj : (nums .i64 X.2)[j]? = some (.int .i64 zj) := by simp [nums, hzj]
     have c1 := n1 ad9 rfl j _ hnj
     have c2 := o1 ad13 rfl j _ hnj
     have HWJ := Lib.hid (wrap_succ j (by omega))
     clear hr9 hr13 n1 n2 o1 o2 hlx hzj hnj
     go_wp2_with fail
     go_region_held3 (fun V => V.cell? (ad9.add j) = some (.int .i64 zj) ∧ V.cell? (ad13.add j) = some (.int .i64 zj)) (exact ⟨c1, c2⟩) (fail)
     go_wp2_with fail
     exact ⟨⟨j + 1, by omega, (by first | rfl | rw [HWJ.out] | (push_cast; rfl)), hkr.drew⟩, by first | (rw [HWJ.out]; simp only [intOf]; omega) | (simp only [intOf]; omega)⟩
    ·have hdj1 : decide ((j : Int) < (es.length : Int)) = false := decide_eq_false (by omega)
     have hfew := HIZ.out.few (by decide)
     have hevs : Z.1.evs.length ≤ 1000000 := Nat.le_trans HIZ.out.evs (by decide)
     have hRa := HRA13.out.kept hkr (fun _ _ e => e)
     have hRb := HRB13.out.kept hkr (fun _ _ e => e)
     have hga := events_as wr B1' Z.1 hRa hfew hevs
     rw [y1.r] at hga
     have HRa := Lib.hid hRa
     have HRb := Lib.hid hRb
     generalize Z.1 = τ at *
     clear hRa hRb hr9 hr13
     go_wp2_with fail
     refine hga.mono ?_
     rintro e w14 ⟨A14, c14, rfl, hk14, _, has14⟩
     go_wp2_with fail
     refine (has14 w14 (Kp.refl _ _)).mono ?_
     rintro e w15 ⟨A15, c15, rfl, hk15, hr15⟩
     have hkr15 : Kp (fun _ => False) wr w15 := hk14.also hk15
     have hgb := events_as w15 B4 τ (HRb.out.kept hkr15 (fun _ _ e => e)) hfew hevs
     rw [hB4r] at hgb
     have HR15 := Lib.hid hr15
     clear has14 hr15 hga
     go_wp2_with fail
     refine hgb.mono ?_
     rintro e w16 ⟨A16, c16, rfl, hk16, _, has16⟩
     go_wp2_with fail
     refine (has16 w16 (Kp.refl _ _)).mono ?_
     rintro e w17 ⟨A17, c17, rfl, hk17, hr17⟩
     have hsm := events_same w17 A15 A17 c15 c17 τ.evs.length _ (by rw [List.length_map, List.length_map]) hevs (HR15.out w17 (hk16.also hk17)) (hr17 w17 (Kp.refl _ _))
     have hkr17 : Kp (fun _ => False) wr w17 := (hkr15.also hk16).also hk17
     clear has16 hr17 hgb HR15
     go_wp2_with fail
     refine hsm.mono ?_
     rintro e w18 ⟨rfl, hk18⟩
     have hkr18 : Kp (fun _ => False) wr w18 := hkr17.also hk18
     have hRa := HRa.out.kept hkr18 (fun _ _ e => e)
     have hRb := HRb.out.kept hkr18 (fun _ _ e => e)
     have u1 := runner_Sched w18 B1' τ hRa
     have u2 := sched_Mem w18 B1'.s B1'.mb.m B1'.q B1'.tg _ _ hRa.sch
     have u3 := words_row w18 B1'.mb _ hRa.mem
     rw [y1.r] at u1
     have hws : τ.mem.words.length ≤ 1000000 := Nat.le_trans hRa.mem.few (by decide)
     have HRb18 := Lib.hid hRb
     clear hRa hRb hsm
     go_wp2_with fail
     refine (u1).mono ?_
     rintro e w19 ⟨rfl, hww19⟩
     obtain rfl : w18 = w19 := by first | exact hww19.symm | exact hww19
     go_wp2_with fail
     refine (u2).mono ?_
     rintro e w19 ⟨rfl, hww19⟩
     obtain rfl : w18 = w19 := by first | exact hww19.symm | exact hww19
     go_wp2_with fail
     refine u3.mono ?_
     rintro e w19 ⟨A19, c19, rfl, hk19, hr19⟩
     have HR19 := Lib.hid hr19
     have hRb := HRb18.out.kept hk19 (fun _ _ e => e)
     have v1 := runner_Sched w19 B4 τ hRb
     have v2 := sched_Mem w19 B4.s B4.mb.m B4.q B4.tg _ _ hRb.sch
     have v3 := words_row w19 B4.mb _ hRb.mem
     rw [hB4r] at v1
     clear u1 u2 u3 hr19 hRb
     go_wp2_with fail
     refine (v1).mono ?_
     rintro e w20 ⟨rfl, hww20⟩
     obtain rfl : w19 = w20 := by first | exact hww20.symm | exact hww20
     go_wp2_with fail
     refine (v2).mono ?_
     rintro e w20 ⟨rfl, hww20⟩
     obtain rfl : w19 = w20 := by first | exact hww20.symm | exact hww20
     go_wp2_with fail
     refine v3.mono ?_
     rintro e w20 ⟨A20, c20, rfl, hk20, hr20⟩
     have hsw := words_same w20 A19 A20 c19 c20 τ.mem.words hws (HR19.out w20 hk20) (hr20 w20 (Kp.refl _ _))
     clear v1 v2 v3 hr20 HR19
     go_wp2_with fail
     refine hsw.mono ?_
     rintro e w21 ⟨rfl, hk21⟩
     have hfin : Kp (fun _ => False) w w21 := ((((hfin13.also hkr).also hkr18).also hk19).also hk20).also hk21
     clear hsw
     go_wp2
     go_ret
     exact ⟨rfl, hfin.blw⟩
 ·have hdl : decide (0 < (es.length : Int)) = true := decide_eq_true (by omega)
  obtain ⟨q0, g0, g1, hpk⟩ := pick_ok at_ r5 (es.length : Int) (by have := HLEN.out; omega)
  obtain ⟨q, rfl⟩ : ∃ q : Nat, q0 = (q : Int) := ⟨q0.toNat, by omega⟩
  have hql : q < es.length := by omega
  obtain ⟨pc, hpf, hpl, hpe⟩ := parse_two s es HES.out q hql
  obtain ⟨en, he⟩ : ∃ en, es[q]? = some en := ⟨_, List.getElem?_eq_getElem hql⟩
  have hen : en.f3 = (pc : Int) := by rw [← hpf, List.getD_eq_getElem?_getD, he]; rfl
  have hcut : ∃ p : Nat, p = pc ∧ (s.extract 0 p).size ≤ 2000 ∧ (s.extract p s.size).size ≤ 2000 ∧ es = parseF (s.extract 0 p) ++ (parseF (s.extract p s.size)).map (G.shiftE p) := ⟨pc, rfl, by simp; omega, by simp; omega, hpe⟩
  have HPK2 := Lib.hid hpk
  have HCUT := Lib.hid hcut
  clear hpk hpe hcut hpf
  go_wp2_with fail
  refine (G.hatstandlaw17_pick.calls at_ es.length (q : Int) w7 HPK2.out).mono ?_
  rintro e w8 ⟨rfl, hdr⟩
  obtain ⟨nd8, hdr⟩ := hdr.out
  have hk7W : Kp (fun _ => False) w7 w8 := by rw [hdr]; exact (Kp.refl _ _).drewN nd8
  have hkW : Kp (fun _ => False) w w8 := hk7.also hk7W
  have hN8 := Kd.N_step HN7.out (w1 := w8) (fun k hk hlt => hk7W.block k hlt (fun e => e))
  obtain ⟨ad, A1, a1, rfl, hbl, e0, e1, e2, e3, hargs⟩ := entry_read hN8 he
  rw [hen] at e3
  have hcut := HCUT.out
  clear hdr hN8 hargs e0 e1 e2 hen he HCUT
  have hrunA := runner_Run_ok w8 (GG_at hG hkW.blw) B1 σ (HRA.out.kept hk7W (fun _ _ e => e)) 0 HI0.out s (by omega)
  rw [← HES.out] at hrunA
  obtain ⟨X, hX⟩ : ∃ X, X = σ.runs es := ⟨_, rfl⟩
  rw [← hX] at hrunA
  have HX := Lib.hid hX
  clear hX
  go_wp2_with fail
  refine hrunA.mono ?_
  rintro e w9 ⟨v9, rfl, hro9, B1', y1, y2, y3, y4, y5⟩
  obtain ⟨A9, c9, rfl⟩ := row_slice hro9
  obtain ⟨hRb9, hd9⟩ := (HRB.out.kept hk7W (fun _ _ e => e)).beside y3 (fun k h1 h2 => hdis k h2 h1) y4
  have HY2 := Lib.hid y2
  have HRB9 := Lib.hid hRb9
  have HRO9 := Lib.hid hro9
  clear hrunA y2 hRb9 hro9
  obtain ⟨p, hps, hs1, hs2, hesab⟩ := hcut
  subst hps
  obtain ⟨ea, hea⟩ : ∃ ea, ea = parseF (s.extract 0 p) := ⟨_, rfl⟩
  obtain ⟨eb, heb⟩ : ∃ eb, eb = parseF (s.extract p s.size) := ⟨_, rfl⟩
  rw [← hea, ← heb] at hesab
  have hab : ea.length + eb.length = es.length := by rw [hesab]; simp
  have hI1 := HI0.out.runs ea
  have hXY : X = (((σ.runs ea).1.runs eb).1, (σ.runs ea).2 ++ ((σ.runs ea).1.runs eb).2) := by rw [HX.out, hesab, Run.runs_append, runs_at _ (G.shiftE p) (fun e => ⟨rfl, rfl, rfl⟩)]
  have hYl := runs_len σ ea
  have hZl := runs_len (σ.runs ea).1 eb
  have hsz1 : (s.extract 0 p).size ≤ 2000 := hs1
  have hsz2 : (s.extract p s.size).size ≤ 2000 := hs2
  have hrun1 := fun V (hk : Kp (fun _ => False) w9 V) => runner_Run_ok V (GG_at hG ((hkW.comp y3 (fun k hk e => by have := hf1 k e; have := hk4.size; omega)).also hk).blw) B2 σ (HRB9.out.kept hk (fun _ _ e => e)) 0 HI0.out (s.extract 0 p) (by omega)
  rw [← hea] at hrun1
  have hlenes := HLEN.out
  generalize hY : σ.runs ea = Y at *
  obtain ⟨Z, hZ⟩ : ∃ Z, Z = Y.1.runs eb := ⟨_, rfl⟩
  rw [← hZ] at hXY hZl
  have hB2 : ∀ k, B2.all k → k < w6.heap.size := fun k hk => HR2.out.all_lt hk
  have sW : w6.heap.size ≤ w8.heap.size := by have := hk7W.size; omega
  have hwz : Kp (fun _ => False) w w9 := hkW.comp y3 (fun k hk e => by have := hf1 k e; have := hk4.size; omega)
  have hrow9 : ∀ k, (Value.slice A9 es.length c9).ownBlock = some k → w6.heap.size ≤ k ∧ k < w9.heap.size ∧ ¬ B1'.all k := fun k e => ⟨by have := (HRO9.out.lt k e).1; omega, (HRO9.out.lt k e).2, y5 k e⟩
  have hmid := fun (w10 w11 : World) (B3 : RB) (g : Nat) (sb : Value) (z2 : RunAt w10 B3 Y.1) (hk : Kp B2.all w9 w10) (z4 : ∀ k, B3.all k → B2.all k ∨ w9.heap.size ≤ k) (K : Kp (fun k => k = g) w10 w11) (hg : w9.heap.size ≤ g) (hgB : ¬ B3.all g) (hat : ∀ k, sb.ownBlock = some k → k = g ∨ w10.heap.size ≤ k) => runs_mid hd9 hB2 HY2.out hrow9 (row_base HRO9.out (Nat.zero_le _)) (by have := y3.size; omega) z2 hk z4 K hg hgB hat
  have hrun2 := fun (w11 : World) (B3 : RB) (hR3 : RunAt w11 B3 Y.1) (hk : Kp B2.all w9 w11) => runner_Run_ok w11 (GG_at hG (hwz.comp hk (fun k hk e => by have := hf2 k e; have := hk5.size; omega)).blw) B3 Y.1 hR3 _ hI1 (s.extract p s.size) (by omega)
  rw [← heb, ← hZ] at hrun2
  have hempty := fun (w10 : World) (hk : Kp B2.all (w9.alloc (.cells #[] 27)).drew w10) => (show w10.heap[w9.heap.size]? = some (.cells #[] 27 (0, 0)) from hk.heap (show (w9.alloc (.cells #[] 27)).drew.heap[w9.heap.size]? = _ from hp_new _ _ _ rfl) (fun e => by have := hB2 _ e; have := y3.size; omega))
  have hone1 : ∀ u ∈ nums .i64 Y.2, u.oneCell' = true := by simp [nums, Value.oneCell']
  have hone2 : ∀ u ∈ nums .i64 Z.2, u.oneCell' = true := by simp [nums, Value.oneCell']
  have hnl1 : (nums .i64 Y.2).length = ea.length * 1 := by simp [nums, hYl]
  have hnl2 : (nums .i64 Z.2).length = eb.length * 1 := by simp [nums, hZl]
  obtain ⟨i0, hi, hz0, hz1, hz2⟩ := info_parts info_errno
  have RUN1 := Lib.hid hrun1
  have RUN2 := Lib.hid hrun2
  have MID := Lib.hid hmid
  have EMP := Lib.hid hempty
  have HXY := Lib.hid hXY
  have s9 := y3.size
  have HROW := Lib.hid hrow9
  have HIZ : Hid (Z.1.Inv 2000) := Lib.hid (by rw [hZ]; exact (hI1.runs eb).mono (by omega))
  clear hrun1 hrun2 hmid hempty hXY hea heb hesab hY hZ hYl hZl hI1 hrow9
  go_wp2_with fail
  go_region_law (first
   | (refine step_calls2 rfl 20 Tryz.f20 Tryz.func20 (by kernel_rfl) rfl (.tmp 110) (.tmp 113) _ rfl (.pointer (some ⟨B2.r, 0, none⟩)) (.string (s.extract 0 p)) (by kernel_rfl) (by kernel_rfl) _ (RUN1.out _ (by first | exact (Kp.refl _ _).drew | exact ((Kp.refl _ _).alloc _).drew)) ?_; rintro e w10 ⟨v10, rfl, hro10, B3, z1, z2, z3, z4, z5⟩; obtain ⟨A10, c10, rfl⟩ := row_slice hro10; refine ⟨_, rfl, ?_⟩)
   | (refine step_append_any rfl (.tmp 109) (.tmp 114) 50 rfl 0 27 i0 (.int .i64 0) 1 8 Tryz.underlying50 hi hz0 hz1 hz2 rfl (by decide) (some ⟨w9.heap.size, 0, none⟩) 0 0 [] (by kernel_rfl) (own_empty 1 (EMP.out _ z3)) A10 ea.length c10 (nums .i64 Y.2) (by kernel_rfl) hnl1 (row_news hro10).1 (row_news hro10).2.1 (row_news hro10).2.2 hone1 ea.length (Nat.zero_add _) (by unfold maxLen; omega) (by omega) (Nat.zero_le _) ?_; intro sb11 cap11 w11 hro11 hgr11 hat11; have hm11 := MID.out w10 w11 B3 w9.heap.size _ z2 (Kp.mono (S := fun _ => False) ((Kp.refl _ _).alloc _).drew (fun _ e => e.elim) |>.comp z3 (fun _ _ e => e)) (fun k e => (z4 k e).imp id (fun e => by simp at e; omega)) ((Kp.refl _ _).grown hgr11 (fun k _ e => (Option.some.inj e).symm)) (Nat.le_refl _) (fun e => by rcases z4 _ e with h | h; exact absurd (hB2 _ h) (by omega); exact absurd (show w9.heap.size + 1 ≤ w9.heap.size from by simpa using h) (by omega)) (fun k e => (hat11 k e).imp (fun e => (Option.some.inj e).symm) id); have hr2 := RUN2.out w11 B3 hm11.2.1 hm11.2.2.2.2.1; rw [z1.r] at hr2)
   | (refine step_append_any rfl (.tmp 109) (.tmp 114) 50 rfl 0 27 i0 (.int .i64 0) 1 8 Tryz.underlying50 hi hz0 hz1 hz2 rfl (by decide) (some ⟨w10.heap.size, 0, none⟩) 0 0 [] (by kernel_rfl) (own_empty 1 (hp_new _ _ _ rfl)) A10 ea.length c10 (nums .i64 Y.2) (by kernel_rfl) hnl1 (row_news (row_alloc hro10 _)).1 (row_news hro10).2.1 (row_news hro10).2.2 hone1 ea.length (Nat.zero_add _) (by unfold maxLen; omega) (by omega) (Nat.zero_le _) ?_; intro sb11 cap11 w11 hro11 hgr11 hat11; have hm11 := MID.out w10 w11 B3 w10.heap.size _ z2 (Kp.mono (S := fun _ => False) (Kp.refl _ _).drew (fun _ e => e.elim) |>.comp z3 (fun _ _ e => e)) z4 (((Kp.refl _ _).alloc _).grown hgr11 (fun k _ e => (Option.some.inj e).symm)) z3.size (fun e => Nat.lt_irrefl _ (z2.all_lt e)) (fun k e => (hat11 k e).imp (fun e => (Option.some.inj e).symm) (fun e => by simp at e; omega)); have hr2 := RUN2.out w11 B3 hm11.2.1 hm11.2.2.2.2.1; rw [z1.r] at hr2)
   | (refine step_calls2 rfl 20 Tryz.f20 Tryz.func20 (by kernel_rfl) rfl (.tmp 116) (.tmp 119) _ rfl (.pointer (some ⟨B2.r, 0, none⟩)) (.string (s.extract p s.size)) (by kernel_rfl) (by kernel_rfl) _ hr2 ?_; rintro e w12 ⟨v12, rfl, hro12, B4, x1, x2, x3, x4, x5⟩; obtain ⟨A12, c12, rfl⟩ := row_slice hro12; have hro11b := x3.row hro11 (fun k e => (hm11.2.2.2.2.2.2 k e).2.1); refine ⟨_, rfl, ?_⟩)
   | (refine step_append_any rfl (.tmp 115) (.tmp 120) 50 rfl 0 27 i0 (.int .i64 0) 1 8 Tryz.underlying50 hi hz0 hz1 hz2 rfl (by decide) sb11 cap11 ea.length _ (by kernel_rfl) hro11b A12 eb.length c12 (nums .i64 Z.2) (by kernel_rfl) hnl2 (row_news hro12).1 (row_news hro12).2.1 (row_news hro12).2.2 hone2 es.length hab (by unfold maxLen; omega) (by omega) (Nat.zero_le _) ?_; intro sb13 cap13 w13 hro13 hgr13 hat13))
  all_goals
   obtain ⟨m1, m2, m3, m4, m5, m6, m7⟩ := hm11
   have K1213 : Kp (fun k => (Value.slice sb11 ea.length cap11).ownBlock = some k) w12 w13 := (Kp.refl _ _).grown hgr13 (fun k _ e => e)
   have hlt11 : ∀ k, (Value.slice sb11 ea.length cap11).ownBlock = some k → k < w11.heap.size := fun k e => (hro11.lt k e).2
   have RA13 : RunAt w13 B1' X.1 := (m1.kept x3 (fun k h e => m3 k e h)).kept K1213 (fun k h e => (m7 k e).2.2 h)
   have RB13 : RunAt w13 B4 Z.1 := x2.kept K1213 (fun k h e => by
    rcases x4 k h with h' | h'
    ·exact (m7 k e).2.1 h'
    ·have := hlt11 k e; omega)
   have r9 : w13.ownsRow 0 27 1 (.slice A9 es.length c9) es.length (nums .i64 X.2) := K1213.row (x3.row m4 (fun k h e => by
    have h1 := HROW.out k h
    rcases m6 k e with h' | h'
    ·have := hB2 k h'; omega
    ·omega)) (fun k h e => by
    have h1 := HROW.out k h
    have h2 := (m7 k e).1
    omega)
   have K913 : Kp B2.all w9 w13 := (m5.comp x3 (fun k hk e => by
    rcases m6 k e with h' | h'
    ·exact h'
    ·omega)).comp K1213 (fun k hk e => by have := (m7 k e).1; omega)
   have hfin13 : Kp (fun _ => False) w w13 := hwz.comp K913 (fun k hk e => by have := hf2 k e; have := hk5.size; omega)
   have hX1 : X.1 = Z.1 := by rw [HXY.out]
   have hX2 : nums .i64 X.2 = nums .i64 Y.2 ++ nums .i64 Z.2 := by rw [HXY.out]; simp [nums]
   rw [hX1] at RA13
   have hro13b := hro13
   rw [List.nil_append, ← hX2] at hro13b
   have hB4r : B4.r = B2.r := x1.r.trans z1.r
   have hXl : X.2.length = es.length := by
    have h1 := r9.1
    simp [nums] at h1
    exact h1
   have HRA13 := Lib.hid RA13
   have HRB13 := Lib.hid RB13
   have HR9 := Lib.hid r9
   have HR13 := Lib.hid hro13b
   have HXL := Lib.hid hXl
   clear m1 m2 m3 m4 m5 m6 m7 K1213 hlt11 RA13 RB13 r9 K913 hX1 hX2 hro13 hro13b hgr13 hat13 hro11 hgr11 hat11 hr2 hro12 hro11b x2 x3 x4 x5 hXl
   go_wp2_with fail
   refine wp_world ?_
   intro W0 hW0
   obtain rfl : w13 = W0 := hW0.symm
   go_loopw [26] (fun i wr => ∃ j : Nat, j ≤ es.length ∧ i = .int .i64 j ∧ Kp (fun _ => False) w13 wr) (fun i _ => es.length - (intOf i).toNat)
   case atStart => exact ⟨0, by omega, rfl, Kp.refl _ _⟩
   case round =>
    obtain ⟨j, hj, rfl, hkr⟩ := hrel
    have hr9 := hkr.row HR9.out (fun _ _ e => e)
    have hr13 := hkr.row HR13.out (fun _ _ e => e)
    by_cases hlt : j < es.length
    ·have hdj1 : decide ((j : Int) < (es.length : Int)) = true := decide_eq_true (by omega)
     obtain ⟨n1, n2, n3⟩ := row_news hr9
     obtain ⟨o1, o2, o3⟩ := row_news hr13
     obtain ⟨ad9, rfl⟩ : ∃ ad, A9 = some ad := by
      cases h : A9 with
      | none => exact absurd h (n2 (by omega))
      | some ad => exact ⟨ad, rfl⟩
     obtain ⟨ad13, rfl⟩ : ∃ ad, sb13 = some ad := by
      cases h : sb13 with
      | none => exact absurd h (o2 (by omega))
      | some ad => exact ⟨ad, rfl⟩
     have hlx : j < X.2.length := by rw [HXL.out]; exact hlt
     obtain ⟨zj, hzj⟩ : ∃ zj, X.2[j]? = some zj := ⟨_, List.getElem?_eq_getElem hlx⟩
     have hnj : (nums .i64 X.2)[j]? = some (.int .i64 zj) := by simp [nums, hzj]
     have c1 := n1 ad9 rfl j _ hnj
     have c2 := o1 ad13 rfl j _ hnj
     have HWJ := Lib.hid (wrap_succ j (by omega))
     clear hr9 hr13 n1 n2 o1 o2 hlx hzj hnj
     go_wp2_with fail
     go_region_held3 (fun V => V.cell? (ad9.add j) = some (.int .i64 zj) ∧ V.cell? (ad13.add j) = some (.int .i64 zj)) (exact ⟨c1, c2⟩) (fail)
     go_wp2_with fail
     exact ⟨⟨j + 1, by omega, (by first | rfl | rw [HWJ.out] | (push_cast; rfl)), hkr.drew⟩, by first | (rw [HWJ.out]; simp only [intOf]; omega) | (simp only [intOf]; omega)⟩
    ·have hdj1 : decide ((j : Int) < (es.length : Int)) = false := decide_eq_false (by omega)
     have hfew := HIZ.out.few (by decide)
     have hevs : Z.1.evs.length ≤ 1000000 := Nat.le_trans HIZ.out.evs (by decide)
     have hRa := HRA13.out.kept hkr (fun _ _ e => e)
     have hRb := HRB13.out.kept hkr (fun _ _ e => e)
     have hga := events_as wr B1' Z.1 hRa hfew hevs
     rw [y1.r] at hga
     have HRa := Lib.hid hRa
     have HRb := Lib.hid hRb
     generalize Z.1 = τ at *
     clear hRa hRb hr9 hr13
     go_wp2_with fail
     refine hga.mono ?_
     rintro e w14 ⟨A14, c14, rfl, hk14, _, has14⟩
     go_wp2_with fail
     refine (has14 w14 (Kp.refl _ _)).mono ?_
     rintro e w15 ⟨A15, c15, rfl, hk15, hr15⟩
     have hkr15 : Kp (fun _ => False) wr w15 := hk14.also hk15
     have hgb := events_as w15 B4 τ (HRb.out.kept hkr15 (fun _ _ e => e)) hfew hevs
     rw [hB4r] at hgb
     have HR15 := Lib.hid hr15
     clear has14 hr15 hga
     go_wp2_with fail
     refine hgb.mono ?_
     rintro e w16 ⟨A16, c16, rfl, hk16, _, has16⟩
     go_wp2_with fail
     refine (has16 w16 (Kp.refl _ _)).mono ?_
     rintro e w17 ⟨A17, c17, rfl, hk17, hr17⟩
     have hsm := events_same w17 A15 A17 c15 c17 τ.evs.length _ (by rw [List.length_map, List.length_map]) hevs (HR15.out w17 (hk16.also hk17)) (hr17 w17 (Kp.refl _ _))
     have hkr17 : Kp (fun _ => False) wr w17 := (hkr15.also hk16).also hk17
     clear has16 hr17 hgb HR15
     go_wp2_with fail
     refine hsm.mono ?_
     rintro e w18 ⟨rfl, hk18⟩
     have hkr18 : Kp (fun _ => False) wr w18 := hkr17.also hk18
     have hRa := HRa.out.kept hkr18 (fun _ _ e => e)
     have hRb := HRb.out.kept hkr18 (fun _ _ e => e)
     have u1 := runner_Sched w18 B1' τ hRa
     have u2 := sched_Mem w18 B1'.s B1'.mb.m B1'.q B1'.tg _ _ hRa.sch
     have u3 := words_row w18 B1'.mb _ hRa.mem
     rw [y1.r] at u1
     have hws : τ.mem.words.length ≤ 1000000 := Nat.le_trans hRa.mem.few (by decide)
     have HRb18 := Lib.hid hRb
     clear hRa hRb hsm
     go_wp2_with fail
     refine (u1).mono ?_
     rintro e w19 ⟨rfl, hww19⟩
     obtain rfl : w18 = w19 := by first | exact hww19.symm | exact hww19
     go_wp2_with fail
     refine (u2).mono ?_
     rintro e w19 ⟨rfl, hww19⟩
     obtain rfl : w18 = w19 := by first | exact hww19.symm | exact hww19
     go_wp2_with fail
     refine u3.mono ?_
     rintro e w19 ⟨A19, c19, rfl, hk19, hr19⟩
     have HR19 := Lib.hid hr19
     have hRb := HRb18.out.kept hk19 (fun _ _ e => e)
     have v1 := runner_Sched w19 B4 τ hRb
     have v2 := sched_Mem w19 B4.s B4.mb.m B4.q B4.tg _ _ hRb.sch
     have v3 := words_row w19 B4.mb _ hRb.mem
     rw [hB4r] at v1
     clear u1 u2 u3 hr19 hRb
     go_wp2_with fail
     refine (v1).mono ?_
     rintro e w20 ⟨rfl, hww20⟩
     obtain rfl : w19 = w20 := by first | exact hww20.symm | exact hww20
     go_wp2_with fail
     refine (v2).mono ?_
     rintro e w20 ⟨rfl, hww20⟩
     obtain rfl : w19 = w20 := by first | exact hww20.symm | exact hww20
     go_wp2_with fail
     refine v3.mono ?_
     rintro e w20 ⟨A20, c20, rfl, hk20, hr20⟩
     have hsw := words_same w20 A19 A20 c19 c20 τ.mem.words hws (HR19.out w20 hk20) (hr20 w20 (Kp.refl _ _))
     clear v1 v2 v3 hr20 HR19
     go_wp2_with fail
     refine hsw.mono ?_
     rintro e w21 ⟨rfl, hk21⟩
     have hfin : Kp (fun _ => False) w w21 := ((((hfin13.also hkr).also hkr18).also hk19).also hk20).also hk21
     clear hsw
     go_wp2
     go_ret
     exact ⟨rfl, hfin.blw⟩
end Go.Proofs.YtgdoeoackhfikaaGreatDoor

namespace Go.Proofs.YtgdoeoackhfikaaGreatDoor
set_option linter.unusedVariables false
set_option linter.unusedSimpArgs false
open Go.ChangeShapes Go.WideShapes Go.ChangeAt Go.RowKit Go.Proofs.YtgdoeoackhfikaaGreatDoorW.PrintWords
open Go.ChangeMaps (open_string shut_string)
set_option maxRecDepth 100000
theorem runnerRuns_reads (os : Os) {H : Type} (enc : TypeId × Value → H) : ∃ places, DataW.whole enc Tryz.prog ((World.laidAll Tryz.prog os laid0).forCall (fun _ _ => 0) ⟨#[], #[.int .i64 0, .int .i64 0, .int .i64 0, .int .i64 0, .string ByteArray.empty, .int .i64 0], []⟩).memory Tryz.f4.params.toList Rows.runnerRunsSpec.vars false #[(.int .i64 0 : Value), (.int .i64 0 : Value), (.int .i64 0 : Value), (.int .i64 0 : Value), (.string ByteArray.empty : Value), (.int .i64 0 : Value)].toList 8 = some ([.lit (.int .i64 0), .lit (.int .i64 0), .lit (.int .i64 0), .lit (.int .i64 0), .lit (.string []), .lit (.int .i64 0)], [], places) :=
 ⟨[], by kernel_rfl⟩
theorem runnerRuns_lifted (os : Os) (started : os.Started) (H : Type) (enc : TypeId × Value → H) (F : Stop.Interp) :
  ReturnsInHanded {} Tryz.checked os 4 .any ((OpenSpec.ofChange Rows.runnerRunsSpec).preRow enc Tryz.prog Tryz.f4 Rows.runnerRunsRow.domain false Rows.runnerRunsRow.laid) (((OpenSpec.ofChange Rows.runnerRunsSpec).at F).post enc Tryz.prog Tryz.f4 false true false false) := by
 obtain ⟨places, hx⟩ := runnerRuns_reads os enc
 refine lifted_law started #[.int .i64 0, .int .i64 0, .int .i64 0, .int .i64 0, .string ByteArray.empty, .int .i64 0] Tryz.func4 (by kernel_rfl) rfl rfl ?_ ?_ (by kernel_rfl) (OpenSpec.preRow_of_cond 8 hx (by kernel_rfl) (fun k hk => by cases hk) (by kernel_rfl) (wit_met os _)) ?_
 ·intro ds hl
  rw [Tryz.params4] at hl
  match ds, hl with
  | [d0, d1, d2, d3, d4, d5], _ => rfl
 ·intro t ht
  rw [Tryz.params4] at ht
  have hm : t ∈ [3, 3, 3, 3, 9, 3] := ht
  have hall : ([3, 3, 3, 3, 9, 3].all fun u => Tryz.prog.readableRec u && decide (u < Tryz.prog.types.size)) = true := by kernel_rfl
  simpa using List.all_eq_true.1 hall t hm
 ·intro W base args ds p hval hA hG hsz
  rw [Tryz.params4] at hA hval hsz
  obtain ⟨v0, vs0, d0, ds0, p0, q0, hargs, rfl, rfl, h0, r0⟩ := trodAll_cons hA
  obtain ⟨v1, vs1, d1, ds1, p1, q1, rfl, rfl, rfl, h1, r1⟩ := trodAll_cons r0
  obtain ⟨v2, vs2, d2, ds2, p2, q2, rfl, rfl, rfl, h2, r2⟩ := trodAll_cons r1
  obtain ⟨v3, vs3, d3, ds3, p3, q3, rfl, rfl, rfl, h3, r3⟩ := trodAll_cons r2
  obtain ⟨v4, vs4, d4, ds4, p4, q4, rfl, rfl, rfl, h4, r4⟩ := trodAll_cons r3
  obtain ⟨v5, vs5, d5, ds5, p5, q5, rfl, rfl, rfl, h5, r5⟩ := trodAll_cons r4
  obtain ⟨rfl, rfl, rfl⟩ := trodAll_nil r5
  obtain rfl : args = #[v0, v1, v2, v3, v4, v5] := by cases args; simp_all
  obtain ⟨a0, rfl, rfl, rfl, w0⟩ := open_int Tryz.underlying3 (hval 0 3 v0 rfl rfl) h0
  obtain ⟨a1, rfl, rfl, rfl, w1⟩ := open_int Tryz.underlying3 (hval 1 3 v1 rfl rfl) h1
  obtain ⟨a2, rfl, rfl, rfl, w2⟩ := open_int Tryz.underlying3 (hval 2 3 v2 rfl rfl) h2
  obtain ⟨a3, rfl, rfl, rfl, w3⟩ := open_int Tryz.underlying3 (hval 3 3 v3 rfl rfl) h3
  obtain ⟨a4, rfl, rfl, rfl, _⟩ := open_string Tryz.underlying9 (hval 4 9 v4 rfl rfl) h4
  obtain ⟨a5, rfl, rfl, rfl, w5⟩ := open_int Tryz.underlying3 (hval 5 3 v5 rfl rfl) h5
  exact runs_walk a0 a1 a2 a3 a5 (by have := wf_i64 w0; omega) (by have := wf_i64 w1; omega) (by have := wf_i64 w2; omega) (by have := wf_i64 w3; omega) (by have := wf_i64 w5; omega) a4 W hG
theorem runnerRuns_said : Rows.RunnerRunsSaid :=
 OpenClaim.holds_of_cond 4 Tryz.f4 rfl rfl rfl rfl rfl rfl rfl ⟨rfl, rfl, rfl, rfl, rfl⟩ rfl rfl rfl rfl rfl (by kernel_rfl) Tryz.func4 (by kernel_rfl)
  (of_decide_eq_true (by kernel_rfl)) (by unfold Func.isWrapper; first | (rw [if_pos (by decide +kernel)]; kernel_rfl) | (rw [if_neg (by decide +kernel)]; exact ⟨rfl, rfl⟩))
  (fun os started H enc _ F => by rw [OpenClaim.pre_eq_preRow]; exact runnerRuns_lifted os started H enc F)
theorem runnerRuns_plain (f : FuncId) (fn : Func) (hf : Tryz.pinned.checked.prog.funcNamed "hatstand/hatstandlaw17.RunnerRuns" = some f) (hfn : Tryz.pinned.checked.prog.funcs[f]? = some fn) :
  true = Tryz.pinned.checked.prog.looks [] ∧ ∀ (j : Nat) t, fn.params[j]? = some t → Tryz.pinned.checked.prog.wantsStandIn t = false := by
 obtain rfl : f = 4 := Option.some.inj ((show Tryz.prog.funcNamed "hatstand/hatstandlaw17.RunnerRuns" = some 4 by kernel_rfl).symm.trans hf) |>.symm
 obtain rfl : fn = Tryz.f4 := (Option.some.inj (Tryz.func4.symm.trans hfn)).symm
 refine ⟨by kernel_rfl, fun j t ht => ?_⟩
 rw [Tryz.params4] at ht
 have hm : t ∈ [3, 3, 3, 3, 9, 3] := by simpa using Array.mem_of_getElem? ht
 have hall : ([3, 3, 3, 3, 9, 3].all fun u => !Tryz.prog.wantsStandIn u) = true := by kernel_rfl
 exact (show Tryz.prog.wantsStandIn t = false by simpa using List.all_eq_true.1 hall t hm)
theorem runnerRuns_card : Rows.RunnerRunsCardSaid :=
 Claim7.holds_tied_plain_at .later [] _ _ _ _ runnerRuns_said (fun _ h => by cases h) (by kernel_rfl) (fun _ h => by cases h) runnerRuns_row_tie rfl ⟨rfl, rfl⟩ (by kernel_rfl) rfl runnerRuns_plain (by kernel_rfl)
end Go.Proofs.YtgdoeoackhfikaaGreatDoor

namespace Go.Proofs.YtgdoeoackhfikaaGreatDoor
set_option linter.unusedVariables false
set_option linter.unusedSimpArgs false
theorem runnerRuns_holds : Rows.RunnerRunsCardSaid := runnerRuns_card
#print axioms runnerRuns_holds
end Go.Proofs.YtgdoeoackhfikaaGreatDoor

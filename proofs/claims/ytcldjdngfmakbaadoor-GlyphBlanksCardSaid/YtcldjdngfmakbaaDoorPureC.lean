/-
  Plain laws: entries that may be put, and their bytes: what is parsed of them.
-/
import Derived.Test.YtcldjdngfmakbaaDoorPureParts
import Derived.Test.YtcldjdngfmakbaaDoorPut
namespace Go.Proofs.YtcldjdngfmakbaaDoor.G
open Go.RowKit Go.Proofs.YtcldjdngfmakbaaDoor Go.Proofs.YtcldjdngfmakbaaDoorW.PrintWords Go.Lib
set_option linter.unusedVariables false
set_option linter.unusedSimpArgs false

/-! ### parts between commas -/
def splitC : List UInt8 → List (List UInt8)
  | [] => [[]]
  | c :: l => if c = 44 then [] :: splitC l else match splitC l with
    | p :: ps => (c :: p) :: ps
    | [] => [[c]]
theorem splitC_ne (l : List UInt8) : splitC l ≠ [] := by
  cases l with
  | nil => simp [splitC]
  | cons c l =>
    rw [splitC]
    split
    · simp
    · split <;> simp
theorem index_none (l : List UInt8) (h : l.count 44 = 0) : index l [44] = -1 := by
  refine Classical.byContradiction fun hn => ?_
  have hge := index_ge l [44]
  obtain ⟨j, hj⟩ : ∃ j : Nat, index l [44] = j := ⟨(index l [44]).toNat, by omega⟩
  have := count_hit (s := l) (sub := [44]) (by simp) hj
  rw [count_one, h] at this
  omega
theorem splitK_C : ∀ (l : List UInt8), splitK [44] 0 (l.count 44) l = splitC l
  | [] => rfl
  | c :: l => by
    have ih := splitK_C l
    by_cases hc : c = 44
    · subst hc
      have hix : index ((44 : UInt8) :: l) [44] = ((0 : Nat) : Int) := by rw [index]; simp [List.isPrefixOf]
      rw [List.count_cons_self, splitK, hix, splitC, if_pos rfl]
      simp [ih]
    · have hp : ([44] : List UInt8).isPrefixOf (c :: l) = false := by simp [List.isPrefixOf, Ne.symm hc]
      have hix : index (c :: l) [44] = if index l [44] == -1 then -1 else index l [44] + 1 := by rw [index, hp]; simp
      rw [List.count_cons_of_ne (by simpa using hc), splitC, if_neg hc, ← ih]
      cases hk : l.count 44 with
      | zero => simp [splitK]
      | succ k =>
        have hm : ¬ index l [44] = -1 := fun e => by
          have := count_miss e
          rw [count_one, hk] at this
          omega
        have hge := index_ge l [44]
        obtain ⟨j, hj⟩ : ∃ j : Nat, index l [44] = j := ⟨(index l [44]).toNat, by omega⟩
        have hb : ((j : Int) == -1) = false := beq_eq_false_iff_ne.2 (by omega)
        have hb2 : ((j : Int) + 1 == -1) = false := beq_eq_false_iff_ne.2 (by omega)
        simp only [splitK, hix, hj, hb, hb2]
        simp [show ((j : Int) + 1).toNat = j + 1 by omega]
        intro e
        omega
theorem pieces_C (s : ByteArray) : (piecesOf s).map (fun x => x.data.toList) = splitC s.data.toList := by
  unfold piecesOf
  rw [splitB_data, ← splitK_C]
  congr 1
  show count s.data.toList [44] = _
  exact count_one 44 _

/-! ### numbers -/
def numL (l : List UInt8) : Option Nat :=
  match parseUintB 64 l with
  | .ok u => if decDigits u = l then some u else none
  | _ => none
def numsL : List (List UInt8) → Option (List Int)
  | [] => some []
  | x :: r => match numL x with
    | none => none
    | some u => (numsL r).map (fun l => (u : Int) :: l)
def numsOfL (l : List UInt8) : List Int × Bool :=
  if l = [] then ([], true) else match numsL (splitC l) with
  | some l => (l, true)
  | none => ([], false)
theorem numOf_L (x : ByteArray) : numOf x = numL x.data.toList := by
  unfold numOf numL
  split
  · rename_i u h
    simp only [h]
    rw [toList_data, toList_data]
    rfl
  · rename_i h
    split
    · rename_i u hu
      exact absurd hu (h u)
    · rfl
theorem numsFrom_L : ∀ (ps : List ByteArray), numsFrom ps = numsL (ps.map (fun x => x.data.toList))
  | [] => rfl
  | x :: r => by
    rw [numsFrom, List.map_cons, numsL, numOf_L, numsFrom_L r]
    rfl
theorem numsOf_L (s : ByteArray) : numsOf s = numsOfL s.data.toList := by
  unfold numsOf numsOfL
  rw [toList_data, numsFrom_L, pieces_C]
  rfl

theorem parseUintM_snoc (M : Nat) (hM : M ≤ 18446744073709551615) (c : UInt8) (hc : 48 ≤ c.toNat ∧ c.toNat ≤ 57) : ∀ (l : List UInt8) (acc v : Nat), parseUintM M acc l = .ok v → v * 10 + (c.toNat - 48) ≤ M → parseUintM M acc (l ++ [c]) = .ok (v * 10 + (c.toNat - 48))
  | [], acc, v, h, hv => by
    rw [parseUintM] at h
    cases h
    rw [List.nil_append, parseUintM, if_pos hc, if_neg (by omega), if_neg (by omega), parseUintM]
  | x :: l, acc, v, h, hv => by
    rw [parseUintM] at h
    rw [List.cons_append, parseUintM]
    split at h
    · rename_i hx
      rw [if_pos hx]
      split at h
      · cases h
      · rename_i h1
        rw [if_neg h1]
        split at h
        · cases h
        · rename_i h2
          rw [if_neg h2]
          exact parseUintM_snoc M hM c hc l _ v h hv
    · cases h
theorem dig_toNat (i : Nat) (h : i < 10) : (UInt8.ofNat (48 + i)).toNat = 48 + i := by
  rw [UInt8.toNat_ofNat']
  omega
theorem parse_dec (u : Nat) (hu : u ≤ 18446744073709551615) : parseUintM 18446744073709551615 0 (decDigits u) = .ok u := by
  rw [decDigits]
  by_cases h : u < 10
  · rw [dif_pos h, parseUintM, dig_toNat u h, if_pos (by omega), if_neg (by omega), if_neg (by omega), parseUintM]
    congr 1
    omega
  · rw [dif_neg h]
    have ih := parse_dec (u / 10) (by omega)
    have hd := dig_toNat (u % 10) (by omega)
    rw [parseUintM_snoc _ (Nat.le_refl _) _ (by rw [hd]; omega) _ _ _ ih (by rw [hd]; omega), hd]
    congr 1
    omega
termination_by u
decreasing_by omega
theorem decDigits_ne (u : Nat) : decDigits u ≠ [] := by
  rw [decDigits]
  split <;> simp
theorem numL_dec (u : Nat) (hu : u < 18446744073709551616) : numL (decDigits u) = some u := by
  unfold numL parseUintB
  rw [if_neg (decDigits_ne u), show 2 ^ 64 - 1 = 18446744073709551615 by decide, parse_dec u (by omega)]
  simp

/-- Digits, and nothing else. -/
theorem decDigits_dig (u : Nat) : ∀ c ∈ decDigits u, 48 ≤ c.toNat ∧ c.toNat ≤ 57 := by
    intro c hc
    rw [decDigits] at hc
    by_cases h : u < 10
    · rw [dif_pos h] at hc
      rw [List.mem_singleton.1 hc, dig_toNat u h]
      omega
    · rw [dif_neg h] at hc
      rcases List.mem_append.1 hc with h1 | h1
      · exact decDigits_dig (u / 10) c h1
      · rw [List.mem_singleton.1 h1, dig_toNat _ (by omega)]
        omega
termination_by u
decreasing_by omega
theorem splitC_pre : ∀ (a l : List UInt8), (∀ c ∈ a, c ≠ 44) → splitC (a ++ l) = match splitC l with | p :: ps => (a ++ p) :: ps | [] => [a]
  | [], l, _ => by
    have := splitC_ne l
    cases h : splitC l with
    | nil => exact absurd h this
    | cons p ps => simp [h]
  | c :: a, l, h => by
    have ih := splitC_pre a l (fun x hx => h x (List.mem_cons_of_mem _ hx))
    have hc := h c (List.mem_cons_self ..)
    rw [List.cons_append, splitC, if_neg hc, ih]
    cases splitC l <;> rfl
theorem dec_no_comma (u : Nat) : ∀ c ∈ decDigits u, c ≠ 44 := fun c hc e => by
  have := decDigits_dig u c hc
  rw [e] at this
  exact absurd this.1 (by decide)
def okArgs (xs : List Int) : Prop := ∀ x ∈ xs, 0 ≤ x ∧ x < 18446744073709551616
theorem split_args : ∀ (xs : List Int), splitC (argsFrom true xs) = [] :: xs.map (fun x => decDigits x.toNat) ∨ xs = []
  | [] => .inr rfl
  | x :: r => by
    refine .inl ?_
    rw [argsFrom, if_pos rfl, List.singleton_append, splitC, if_pos rfl, splitC_pre _ _ (dec_no_comma _), List.map_cons]
    rcases split_args r with h | h
    · rw [h]
      simp
    · rw [h]
      simp [argsFrom, splitC]
theorem numsL_dec : ∀ (xs : List Int), okArgs xs → numsL (xs.map (fun x => decDigits x.toNat)) = some xs
  | [], _ => rfl
  | x :: r, h => by
    have hx := h x (List.mem_cons_self ..)
    rw [List.map_cons, numsL, numL_dec _ (by omega), numsL_dec r (fun y hy => h y (List.mem_cons_of_mem _ hy))]
    simp
    omega
theorem numsOfL_args (xs : List Int) (h : okArgs xs) : numsOfL (argsFrom false xs) = (xs, true) := by
  cases xs with
  | nil => rfl
  | cons x r =>
    have hne : argsFrom false (x :: r) ≠ [] := by
      rw [argsFrom]
      simp [decDigits_ne]
    have hs : splitC (argsFrom false (x :: r)) = (x :: r).map (fun x => decDigits x.toNat) := by
      rw [argsFrom, if_neg (by simp), List.nil_append, splitC_pre _ _ (dec_no_comma _), List.map_cons]
      rcases split_args r with h1 | h1
      · rw [h1]
        simp
      · rw [h1]
        simp [argsFrom, splitC]
    unfold numsOfL
    rw [if_neg hne, hs, numsL_dec _ h]
end Go.Proofs.YtcldjdngfmakbaaDoor.G

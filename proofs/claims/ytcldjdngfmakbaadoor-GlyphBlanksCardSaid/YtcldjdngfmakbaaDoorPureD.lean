/-
  Plain laws: what is parsed of entries that were put.
-/
import Derived.Test.YtcldjdngfmakbaaDoorPureC
namespace Go.Proofs.YtcldjdngfmakbaaDoor.G
open Go.RowKit Go.Proofs.YtcldjdngfmakbaaDoor Go.Proofs.YtcldjdngfmakbaaDoorW.PrintWords Go.Lib
set_option linter.unusedVariables false
set_option linter.unusedSimpArgs false

/-! ### a rune's bytes -/
theorem u8_of (z : Int) (h : 0 ≤ z ∧ z < 256) : (z.toNat.toUInt8).toNat = z.toNat := by
  show (UInt8.ofNat z.toNat).toNat = _
  rw [UInt8.toNat_ofNat']
  omega
set_option maxHeartbeats 1000000 in
theorem decodeL_encode (r : Int) (hv : Lib.validRune r = true) (t : List UInt8) : decodeL (encodeRune r ++ t) = (r.toNat, (encodeRune r).length) := by
  have hv' : (0 ≤ r ∧ r < 0xD800) ∨ (0xDFFF < r ∧ r ≤ 0x10FFFF) := by simpa [Lib.validRune] using hv
  rw [decodeL_N]
  unfold encodeRune
  by_cases h1 : 0 ≤ r ∧ r ≤ 127
  · rw [encodeRuneZ_one h1.1 h1.2]
    have e0 := u8_of r (by omega)
    simp only [List.map_cons, List.map_nil, List.cons_append, List.nil_append, List.getD_cons_zero, List.length_cons, List.length_nil, e0]
    rw [decodeN, if_pos (by omega)]
  by_cases h2 : 128 ≤ r ∧ r ≤ 2047
  · rw [encodeRuneZ_two h2.1 h2.2]
    have e0 := u8_of (192 + r / 64) (by omega)
    have e1 := u8_of (128 + r % 64) (by omega)
    simp only [List.map_cons, List.map_nil, List.cons_append, List.nil_append, List.getD_cons_zero, List.getD_cons_succ, List.length_cons, List.length_nil, e0, e1]
    rw [decodeN, if_neg (by omega), if_pos (by omega), if_pos (by omega)]
    congr 1
    omega
  by_cases h3 : (2048 ≤ r ∧ r < 55296) ∨ (57343 < r ∧ r ≤ 65535)
  · rw [encodeRuneZ_three h3]
    have e0 := u8_of (224 + r / 4096) (by omega)
    have e1 := u8_of (128 + r / 64 % 64) (by omega)
    have e2 := u8_of (128 + r % 64) (by omega)
    simp only [List.map_cons, List.map_nil, List.cons_append, List.nil_append, List.getD_cons_zero, List.getD_cons_succ, List.length_cons, List.length_nil, e0, e1, e2]
    rw [decodeN, if_neg (by omega), if_neg (by omega), if_pos (by omega), if_pos (by omega)]
    congr 1
    omega
  · have h4 : 65536 ≤ r ∧ r ≤ 1114111 := by omega
    have hz : encodeRuneZ r = [240 + r / 262144, 128 + r / 4096 % 64, 128 + r / 64 % 64, 128 + r % 64] := by
      simp only [encodeRuneZ, if_neg h1, if_neg h2, if_neg h3, if_pos h4]
    rw [hz]
    have e0 := u8_of (240 + r / 262144) (by omega)
    have e1 := u8_of (128 + r / 4096 % 64) (by omega)
    have e2 := u8_of (128 + r / 64 % 64) (by omega)
    have e3 := u8_of (128 + r % 64) (by omega)
    simp only [List.map_cons, List.map_nil, List.cons_append, List.nil_append, List.getD_cons_zero, List.getD_cons_succ, List.length_cons, List.length_nil, e0, e1, e2, e3]
    rw [decodeN, if_neg (by omega), if_neg (by omega), if_neg (by omega), if_pos (by omega), if_pos (by omega)]
    congr 1
    omega
theorem encodeRune_ne (r : Int) : encodeRune r ≠ [] := by
  unfold encodeRune encodeRuneZ
  split
  · simp
  · split
    · simp
    · split
      · simp
      · split <;> simp

/-! ### which runes are marks -/
theorem hasB_iff (l : List (Nat × Int)) (r : Int) : hasB l r = true ↔ r ∈ l.map (·.2) := by
  unfold hasB
  rw [List.any_eq_true, List.mem_map]
  constructor
  · rintro ⟨p, hp, h⟩
    exact ⟨p, hp, by simpa using h⟩
  · rintro ⟨p, hp, h⟩
    exact ⟨p, hp, by simpa using h⟩
theorem marks_runes : (runesOf marks_).map (·.2) = [32, 9, 10, 48, 49, 50, 51, 52, 53, 54, 55, 56, 57, 44] := by decide +kernel
theorem blanks_runes : (runesOf blanks_).map (·.2) = [32, 9, 10] := by decide +kernel
theorem digs_runes : (runesOf digs_).map (·.2) = [48, 49, 50, 51, 52, 53, 54, 55, 56, 57, 44] := by decide +kernel
theorem isBlank_iff (r : Int) : isBlank r = true ↔ r = 32 ∨ r = 9 ∨ r = 10 := by
  unfold isBlank ofB
  rw [Bool.and_eq_true, hasB_iff, blanks_runes]
  simp only [List.mem_cons, List.not_mem_nil, or_false, bne_iff_ne, ne_eq]
  omega
theorem isNum_iff (r : Int) : isNum r = true ↔ (48 ≤ r ∧ r ≤ 57) ∨ r = 44 := by
  unfold isNum ofB
  rw [Bool.and_eq_true, hasB_iff, digs_runes]
  simp only [List.mem_cons, List.not_mem_nil, or_false, bne_iff_ne, ne_eq]
  omega
theorem mark_iff (r : Int) : ofB marks_ r = true ↔ isBlank r = true ∨ isNum r = true := by
  rw [isBlank_iff, isNum_iff]
  unfold ofB
  rw [Bool.and_eq_true, hasB_iff, marks_runes]
  simp only [List.mem_cons, List.not_mem_nil, or_false, bne_iff_ne, ne_eq]
  omega
structure Good (e : S33) : Prop where
  valid : Lib.validRune e.f0 = true
  ne : e.f0 ≠ 65533
  blank : ¬ isBlank e.f0 = true
  num : ¬ isNum e.f0 = true
  ok : e.f2 = true
  args : okArgs e.f1
theorem good_of (e : S33) (hb : badE e = false) (ha : okArgs e.f1) : Good e := by
  unfold badE at hb
  simp only [Bool.or_eq_false_iff, Bool.not_eq_false'] at hb
  obtain ⟨h1, h2, h3, h4⟩ := hb
  have hm : ¬ (isBlank e.f0 = true ∨ isNum e.f0 = true) := fun h => by
    rw [(mark_iff _).2 h] at h2
    cases h2
  exact ⟨h3, by simpa using h4, fun h => hm (.inl h), fun h => hm (.inr h), h1, ha⟩
theorem bad_of_good (e : S33) (h : Good e) : badE e = false := by
  unfold badE
  have h2 : ofB marks_ e.f0 = false := by
    cases hm : ofB marks_ e.f0 with
    | false => rfl
    | true =>
      rcases (mark_iff _).1 hm with h1 | h1
      · exact absurd h1 h.blank
      · exact absurd h1 h.num
  rw [h.ok, h2, h.valid, show (e.f0 == 65533) = false from beq_eq_false_iff_ne.2 h.ne]
  rfl

/-! ### the numbers' text -/
def argRunes (e : S33) : List Int := (argsFrom false e.f1).map (fun c => (c.toNat : Int))
theorem argsFrom_num : ∀ (sep : Bool) (xs : List Int), ∀ c ∈ argsFrom sep xs, (48 ≤ c.toNat ∧ c.toNat ≤ 57) ∨ c.toNat = 44
  | _, [], c, h => by cases h
  | sep, x :: r, c, h => by
    rw [argsFrom] at h
    rcases List.mem_append.1 h with h1 | h1
    · split at h1
      · rw [List.mem_singleton.1 h1]
        exact .inr rfl
      · cases h1
    · rcases List.mem_append.1 h1 with h2 | h2
      · exact .inl (decDigits_dig _ c h2)
      · exact argsFrom_num true r c h2
theorem num_fold (es : List S33) : ∀ (bs : List UInt8) (txt : List Int) (pos : Nat) (t : List UInt8), (∀ c ∈ bs, (48 ≤ c.toNat ∧ c.toNat ≤ 57) ∨ c.toNat = 44) →
    (rl pos (bs ++ t)).foldl stepP ⟨es, txt, true⟩ = (rl (pos + bs.length) t).foldl stepP ⟨es, txt ++ bs.map (fun c => (c.toNat : Int)), true⟩
  | [], txt, pos, t, _ => by simp
  | c :: bs, txt, pos, t, h => by
    have hc := h c (List.mem_cons_self ..)
    have hb : ¬ isBlank (c.toNat : Int) = true := fun e => by
      have := (isBlank_iff _).1 e
      omega
    rw [List.cons_append, rl_cons_ascii _ _ _ (by omega), List.foldl_cons, stepP_num hb ((isNum_iff _).2 (by omega)), num_fold es bs _ _ t (fun x hx => h x (List.mem_cons_of_mem _ hx))]
    rw [List.length_cons, List.map_cons, List.append_assoc, List.singleton_append, show pos + 1 + bs.length = pos + (bs.length + 1) by omega]

theorem runesBytes_snoc (xs : List Int) (x : Int) : runesBytes (xs ++ [x]) = runesBytes xs ++ Utf8.encode x := by
  unfold runesBytes
  rw [List.foldl_append]
  rfl
theorem encode_ascii (c : UInt8) (h : c.toNat < 128) : Utf8.encode (c.toNat : Int) = ⟨#[c]⟩ := by
  unfold Utf8.encode
  have hv : Utf8.valid (c.toNat : Int) = true := by
    unfold Utf8.valid
    simp
    omega
  simp only [hv, if_true, Int.toNat_natCast]
  rw [if_pos h]
  simp
theorem runesBytes_ascii (bs : List UInt8) (h : ∀ c ∈ bs, c.toNat < 128) : (runesBytes (bs.map (fun c => (c.toNat : Int)))).data.toList = bs := by
  suffices H : ∀ (bs pre_ : List UInt8) (r : ByteArray), (∀ c ∈ bs, c.toNat < 128) → r.data.toList = pre_ → ((bs.map (fun c => (c.toNat : Int))).foldl (fun r n => r ++ Utf8.encode n) r).data.toList = pre_ ++ bs by
    exact H bs [] _ h rfl
  intro bs
  induction bs with
  | nil => intro p r _ hr; simpa using hr
  | cons c bs ih =>
    intro p r h hr
    rw [List.map_cons, List.foldl_cons, ih (p ++ [c]) _ (fun x hx => h x (List.mem_cons_of_mem _ hx)) (by rw [encode_ascii c (h c (List.mem_cons_self ..))]; simp [hr])]
    simp

/-! ### an entry -/
def putAt (e : S33) (pos : Nat) : S33 := ⟨e.f0, e.f1, true, (pos : Int)⟩
theorem shut_new (e : S33) (h : Good e) (pos : Nat) : shutE (newE e.f0 pos) (argRunes e) = putAt e pos := by
  unfold shutE
  rw [if_neg (show ¬ isNum (newE e.f0 pos).f0 = true from h.num)]
  have hb : (runesBytes (argRunes e)).data.toList = argsFrom false e.f1 := runesBytes_ascii _ (fun c hc => by have := argsFrom_num _ _ c hc; omega)
  rw [numsOf_L, hb, numsOfL_args _ h.args]
  rfl
theorem endP_entry (e : S33) (h : Good e) (E : List S33) (pos : Nat) : endP ⟨E ++ [newE e.f0 pos], argRunes e, true⟩ = E ++ [putAt e pos] := by
  have := closeF_pre E [newE e.f0 pos] (argRunes e) true (fun _ => by simp)
  unfold endP
  rw [this]
  congr 1
  unfold closeF
  rw [if_pos rfl]
  show [shutE (newE e.f0 pos) (argRunes e)] = _
  rw [shut_new e h]
theorem fold_entry_st (e : S33) (h : Good e) (st : PSt) (pos : Nat) (t : List UInt8) : (rl pos (entryBytes e ++ t)).foldl stepP st = (rl (pos + (entryBytes e).length) t).foldl stepP ⟨endP st ++ [newE e.f0 pos], argRunes e, true⟩ := by
  unfold entryBytes
  have hr : 0 ≤ e.f0 := by have := h.valid; simp [Lib.validRune] at this; omega
  have hd := decodeL_encode e.f0 h.valid (argsFrom false e.f1 ++ t)
  have hne : encodeRune e.f0 ++ (argsFrom false e.f1 ++ t) ≠ [] := by simp [encodeRune_ne]
  rw [List.append_assoc, rl_step _ _ hne, hd, List.foldl_cons]
  simp only [List.drop_left]
  rw [show ((e.f0.toNat : Nat) : Int) = e.f0 by omega]
  obtain ⟨es, txt, opn⟩ := st
  rw [stepP_new h.blank (fun hh => h.num hh.2), num_fold _ _ _ _ _ (argsFrom_num _ _)]
  rw [List.length_append, List.nil_append, Nat.add_assoc]
  rfl
theorem fold_entry (e : S33) (h : Good e) (st : PSt) (ho : okS st) (pos : Nat) (t : List UInt8) :
    ∃ st', okS st' ∧ endP st' = endP st ++ [putAt e pos] ∧ (rl pos (entryBytes e ++ t)).foldl stepP st = (rl (pos + (entryBytes e).length) t).foldl stepP st' :=
  ⟨⟨endP st ++ [newE e.f0 pos], argRunes e, true⟩, fun _ => (by simp), endP_entry e h _ _, fold_entry_st e h st pos t⟩
theorem fold_blank (c : UInt8) (h1 : c.toNat < 128) (h2 : isBlank (c.toNat : Int) = true) (st : PSt) (ho : okS st) (pos : Nat) (t : List UInt8) :
    ∃ st', okS st' ∧ endP st' = endP st ∧ (rl pos (c :: t)).foldl stepP st = (rl (pos + 1) t).foldl stepP st' := by
  refine ⟨pre (endP st) st0, (fun h => by cases h), by rw [endP_pre _ _ okS0]; simp [endP, st0, closeF], ?_⟩
  rw [rl_cons_ascii _ _ _ h1, List.foldl_cons, blank_fold _ _ h2]

/-! ### entries -/
def placed : Nat → List S33 → List S33
  | _, [] => []
  | pos, e :: l => putAt e pos :: placed (pos + (entryBytes e).length) l
theorem fold_put : ∀ (l : List S33), (∀ e ∈ l, Good e) → ∀ (st : PSt), okS st → ∀ (pos : Nat), endP ((rl pos (putBytes l)).foldl stepP st) = endP st ++ placed pos l
  | [], _, st, ho, pos => by simp [putBytes, rl_nil, placed]
  | e :: l, h, st, ho, pos => by
    obtain ⟨st', o', e', f'⟩ := fold_entry e (h e (List.mem_cons_self ..)) st ho pos (putBytes l)
    have : putBytes (e :: l) = entryBytes e ++ putBytes l := by simp [putBytes]
    rw [this, f', fold_put l (fun x hx => h x (List.mem_cons_of_mem _ hx)) st' o', e', List.append_assoc]
    rfl
theorem parse_put (l : List S33) (h : ∀ e ∈ l, Good e) : parseL (putBytes l) = placed 0 l := by
  unfold parseL
  rw [fold_put l h _ okS0]
  rfl
end Go.Proofs.YtcldjdngfmakbaaDoor.G

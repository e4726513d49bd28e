/-
  glyph.Put: the text of any entries whose numbers are uint64s (with a bound on their number), or that one may not be put; where the library's variables read as laid.
-/
import Derived.Test.YtcldjdngfmakbaaDoorG0
import Derived.Test.YtcldjdngfmakbaaDoorBuilder
import Derived.Test.YtcldjdngfmakbaaDoorFormat
import Derived.Test.YtcldjdngfmakbaaDoorNumbers
import Derived.Test.YtcldjdngfmakbaaDoorClone
import Derived.Test.YtcldjdngfmakbaaDoorRunes
import Derived.Lib.RuneBytes
namespace Go.Proofs.YtcldjdngfmakbaaDoor
open Go.RowKit Go.Proofs.YtcldjdngfmakbaaDoor.G Go.Proofs.YtcldjdngfmakbaaDoorW.PrintWords
set_option linter.unusedVariables false
set_option linter.unusedSimpArgs false

def marks_ : ByteArray := ⟨#[32, 9, 10, 48, 49, 50, 51, 52, 53, 54, 55, 56, 57, 44]⟩
/-- It may not be put. -/
def badE (e : S33) : Bool := !e.f2 || (ofB marks_ e.f0 || (!Lib.validRune e.f0 || e.f0 == 65533))
def argsFrom : Bool → List Int → List UInt8
  | _, [] => []
  | sep, x :: r => (if sep = true then [44] else []) ++ (Lib.decDigits x.toNat ++ argsFrom true r)
def entryBytes (e : S33) : List UInt8 := Lib.encodeRune e.f0 ++ argsFrom false e.f1
def putBytes (l : List S33) : List UInt8 := l.flatMap entryBytes
def putF (l : List S33) : ByteArray × Int := if l.any badE = true then (⟨#[]⟩, 1) else (⟨(putBytes l).toArray⟩, 0)
/-- What the walk asks: the numbers are uint64s; a bound on how much there is. -/
def weight (e : S33) : Nat := 4 + 21 * e.f1.length
def putOk (l : List S33) : Prop := (∀ e, e ∈ l → ∀ x, x ∈ e.f1 → 0 ≤ x ∧ x < 18446744073709551616) ∧ (l.map weight).sum ≤ 100000000000

theorem decDigits_len (u : Nat) (h : u < 18446744073709551616) : (Lib.decDigits u).length ≤ 20 := by
  rw [Lib.decDigits_length]
  rcases Nat.eq_zero_or_pos u with h0 | h0
  · subst h0; rw [Lib.nDigits_small (by decide)]; decide
  · have := Lib.numDigits_eq u h0 h
    split at this <;> omega
theorem argsFrom_len : ∀ (sep : Bool) (xs : List Int), (∀ x, x ∈ xs → 0 ≤ x ∧ x < 18446744073709551616) → (argsFrom sep xs).length ≤ 21 * xs.length
  | _, [], _ => Nat.le_refl _
  | sep, x :: r, h => by
    have h1 := argsFrom_len true r (fun y hy => h y (List.mem_cons_of_mem _ hy))
    have h2 := decDigits_len x.toNat (by have := h x List.mem_cons_self; omega)
    simp only [argsFrom, List.length_append, List.length_cons]
    split
    · simp; omega
    · simp; omega
theorem encodeRune_len (r : Int) : (Lib.encodeRune r).length ≤ 4 := by rw [← Lib.runeCells_length]; exact (Lib.runeCells_le r).2
theorem entryBytes_len (e : S33) (h : ∀ x, x ∈ e.f1 → 0 ≤ x ∧ x < 18446744073709551616) : (entryBytes e).length ≤ weight e := by
  unfold entryBytes weight
  rw [List.length_append]
  have h1 := argsFrom_len false e.f1 h
  have h2 := encodeRune_len e.f0
  omega
theorem putBytes_len : ∀ (l : List S33), (∀ e, e ∈ l → ∀ x, x ∈ e.f1 → 0 ≤ x ∧ x < 18446744073709551616) → (putBytes l).length ≤ (l.map weight).sum
  | [], _ => Nat.le_refl _
  | e :: r, h => by
    have h1 := putBytes_len r (fun y hy => h y (List.mem_cons_of_mem _ hy))
    have h2 := entryBytes_len e (h e List.mem_cons_self)
    simp only [putBytes, List.flatMap_cons, List.length_append, List.map_cons, List.sum_cons]
    exact Nat.add_le_add h2 h1
theorem argsFrom_take : ∀ (sep : Bool) (xs : List Int) (k : Nat) (x : Int), xs[k]? = some x →
    argsFrom sep (xs.take (k + 1)) = argsFrom sep (xs.take k) ++ ((if (sep || decide (0 < k)) = true then [44] else []) ++ Lib.decDigits x.toNat)
  | _, [], k, x, h => by simp at h
  | sep, y :: r, 0, x, h => by
    simp at h
    subst h
    simp [argsFrom]
  | sep, y :: r, k + 1, x, h => by
    have h1 := argsFrom_take true r k x (by simpa using h)
    simp only [List.take_succ_cons, argsFrom]
    rw [h1]
    simp [List.append_assoc]

theorem own_others {w w1 : World} {base b : Nat} {e : TypeId} {size n : Nat} {v : Value} {xs : List Value} {cs : Array Value} {T : TypeId} (h : w.ownsRow base e size v n xs) (ho : Lib.OthersKept 5 (some b) w w1) (he : e ≠ 5) (hb : w.heap[b]? = some (.cells cs T (0, 0))) (hT : e ≠ T) : w1.ownsRow base e size v n xs :=
  own_move h (fun k hk => by
    obtain ⟨cells, hc⟩ := own_typed h k hk
    have hkb : k ≠ b := fun e1 => by
      subst e1
      rw [hb] at hc
      cases hc
      exact hT rfl
    rw [hc]
    exact ho k _ hc (fun e1 => hkb (Option.some.inj e1)) (fun _ _ e1 => by cases e1; exact he rfl))

theorem byteCells_app (a b : List UInt8) : Lib.byteCells (a ++ b) = Lib.byteCells a ++ Lib.byteCells b := by simp [Lib.byteCells]
theorem strCells_dec (u : Nat) : Lib.strCells (decStr u) = Lib.byteCells (Lib.decDigits u) := by simp [Lib.strCells, Lib.byteCells, decStr]
theorem isBuilder_of {T e : TypeId} {B b : Nat} {bs : List Value} {w : World} (h : Lib.BuilderAt T e B b (.pointer (some ⟨b, 0, none⟩)) bs w) : Lib.IsBuilder T e B b bs w := .inr h
theorem builder_blk {T e : TypeId} {B b : Nat} {bs : List Value} {w : World} (h : Lib.IsBuilder T e B b bs w) : ∃ cs, w.heap[b]? = some (.cells cs T (0, 0)) := by
  rcases h with ⟨_, v, hb, _⟩ | ⟨_, v, hb, _⟩
  · exact ⟨_, hb⟩
  · exact ⟨_, hb⟩
theorem builder_below {T e : TypeId} {B b : Nat} {bs : List Value} {w w1 : World} (h : Lib.IsBuilder T e B b bs w) (hb : Below w.heap.size w w1) : Lib.IsBuilder T e B b bs w1 := by
  have go : ∀ p, Lib.BuilderAt T e B b p bs w → Lib.BuilderAt T e B b p bs w1 := fun p ⟨hB, v, hk, ho, hne⟩ =>
    ⟨hB, v, (hb.block _ (blk_lt hk)).trans hk, pw_own_below ho hb, hne⟩
  exact h.elim (fun x => .inl (go _ x)) (fun x => .inr (go _ x))

theorem putF_bad {l : List S33} {k : Nat} {e : S33} (he : l[k]? = some e) (hb : badE e = true) : putF l = (⟨#[]⟩, 1) := by
  unfold putF
  rw [if_pos (List.any_eq_true.2 ⟨e, List.mem_of_getElem? he, hb⟩)]
theorem put_good {l : List S33} {k : Nat} {e : S33} (ht : l.take (k + 1) = l.take k ++ [e]) (ha : (l.take k).any badE = false) (hb : badE e = false) : (l.take (k + 1)).any badE = false := by
  rw [ht, List.any_append, ha]; simp [hb]
theorem putBytes_snoc {l : List S33} {k : Nat} {e : S33} (ht : l.take (k + 1) = l.take k ++ [e]) : putBytes (l.take (k + 1)) = putBytes (l.take k) ++ entryBytes e := by
  rw [ht]; simp [putBytes]

set_option maxHeartbeats 16000000 in
set_option maxRecDepth 100000 in
theorem put_walk (A : Option Addr) (c : Nat) (l : List S33) (w : World) (hr : Kd.C k33 w A l.length l) (hc : l.length ≤ c) (hok : putOk l) (hG : GG w) :
    Calls Tryd.prog 14 #[.slice A l.length c] w fun e w' => e = .returned (.tuple #[.string (putF l).1, .int .i64 (putF l).2]) ∧ Below w.heap.size w w' := by
  have hlw : l.length ≤ 100000000000 := by
    have h1 : ∀ (m : List S33), m.length ≤ (m.map weight).sum := fun m => by
      induction m with
      | nil => exact Nat.le_refl _
      | cons e r ih => simp only [List.length_cons, List.map_cons, List.sum_cons]; unfold weight at *; omega
    exact Nat.le_trans (h1 l) hok.2
  have HG := Lib.hid hG
  have HR := Lib.hid hr
  have HOK := Lib.hid hok
  clear hG hr hok
  go_enter Tryd.func14, Tryd.ntmps14
  go_wp2_with fail
  go_loopw [11] (fun i wr => ∃ k : Nat, i = .int .i64 k ∧ k ≤ l.length ∧ Hid ((l.take k).any badE = false) ∧ Lib.IsBuilder 58 5 w.heap.size w.heap.size (Lib.byteCells (putBytes (l.take k))) wr ∧ Below w.heap.size w wr) (fun i _ => l.length - (RowKit.intOf i).toNat)
  case atStart => exact ⟨0, rfl, Nat.zero_le _, Lib.hid rfl, Lib.fresh_isBuilder _ _ w, (Below.refl _ w).alloc (Nat.le_refl _) _⟩
  case round =>
    obtain ⟨k, rfl, hk, HA, hb, hbw⟩ := hrel
    have HB := Lib.hid hb
    have HBW := Lib.hid hbw
    have hszr : w.heap.size < wr.heap.size := by
      obtain ⟨cs, hcs⟩ := builder_blk hb
      exact blk_lt hcs
    have hblen : (Lib.byteCells (putBytes (l.take k))).length ≤ 100000000000 := by
      rw [Lib.byteCells_length]
      have h1 := putBytes_len (l.take k) (fun e he => HOK.out.1 e (List.mem_of_mem_take he))
      have h2 : ((l.take k).map weight).sum ≤ (l.map weight).sum := by
        conv => rhs; rw [← List.take_append_drop k l]
        rw [List.map_append, List.sum_append]; omega
      have := HOK.out.2
      omega
    clear hb hbw
    by_cases hlt : k < l.length
    · obtain ⟨e, he⟩ : ∃ e, l[k]? = some e := ⟨l[k], List.getElem?_eq_getElem hlt⟩
      have hmem : e ∈ l := List.mem_of_getElem? he
      have hrd : rd_T33 l (k : Int) = e := by simp [rd_T33, List.getD, he]
      have hp0 : 0 ≤ (k : Int) := Int.natCast_nonneg _
      have hp1 : (k : Int) < (l.length : Int) := by omega
      obtain ⟨ad, A1, c1, rfl, x0, x1, x2, x3, hl1, hC1⟩ := at_T33 HR.out (k : Int) hp0 hp1
      replace x0 := pw_cell_below HBW.out x0
      replace x1 := pw_cell_below HBW.out x1
      replace x2 := pw_cell_below HBW.out x2
      replace x3 := pw_cell_below HBW.out x3
      rw [hrd] at x0 x1 x2 x3 hl1 hC1
      rw [Int.toNat_natCast] at x0 x1 x2 x3
      have htk : l.take (k + 1) = l.take k ++ [e] := by rw [List.take_add_one, he]; rfl
      have HE := Lib.hid he
      have HMEM := Lib.hid hmem
      have HTK := Lib.hid htk
      have HC1 := Lib.hid hC1
      have HNUM := Lib.hid (HOK.out.1 e hmem)
      obtain ⟨op, args, okE, atE⟩ := e
      have hl1' : args.length ≤ c1 := hl1
      clear he hmem hrd htk hC1 hl1
      have hbel1 : Below w.heap.size w (wr.alloc (.cells #[.int .i32 op, .slice A1 args.length c1, .bool okE, .int .i64 atE] 33)) := below_alloc HBW.out _
      have hbb1 : Below wr.heap.size wr (wr.alloc (.cells #[.int .i32 op, .slice A1 args.length c1, .bool okE, .int .i64 atE] 33)) := below_alloc (Below.refl _ _) _
      have HBEL1 := Lib.hid hbel1
      have HBB1 := Lib.hid hbb1
      clear hbel1 hbb1
      cases okE with
      | false =>
        have HF := Lib.hid (putF_bad HE.out rfl)
        go_wp2_with fail
        go_ret2
        exact ⟨by rw [HF.out]; rfl, HBEL1.out⟩
      | true =>
        go_wp2_with fail
        refine (of_walk marks_ op _ (by decide)).mono ?_
        rintro e w2 ⟨rfl, hb2⟩
        have HB2 := Lib.hid (HBEL1.out.trans (hb2.mono (by simp; omega)))
        have HBB2 := Lib.hid (HBB1.out.trans (hb2.mono (by simp)))
        have hs2 : wr.heap.size + 1 ≤ w2.heap.size := by have := hb2.size; simpa using this
        have he2 : w2.heap[wr.heap.size]? = some (.cells #[.int .i32 op, .slice A1 args.length c1, .bool true, .int .i64 atE] 33) := (hb2.block _ (by simp)).trans (heap_alloc_new wr _)
        have HE2 := Lib.hid he2
        have e20 : w2.cell? ⟨wr.heap.size, 0, none⟩ = some (.int .i32 op) := by rw [Lib.cell_of_heap he2]; rfl
        have e21 : w2.cell? ⟨wr.heap.size, 1, none⟩ = some (.slice A1 args.length c1) := by rw [Lib.cell_of_heap he2]; rfl
        clear hb2 he2 HBEL1 HBB1
        by_cases hm : ofB marks_ op = true
        · have HF := Lib.hid (putF_bad HE.out (by unfold badE; rw [hm]; simp))
          rw [hm]
          clear hm
          go_wp2_with fail
          go_ret2
          exact ⟨by rw [HF.out]; rfl, HB2.out⟩
        · have hm' : ofB marks_ op = false := by simpa using hm
          rw [hm']
          have HM := Lib.hid hm'
          clear hm hm'
          go_wp2_with fail
          refine (Tryd.utf8_ValidRune op _).mono ?_
          rintro e w' ⟨rfl, rfl⟩
          by_cases hv : Lib.validRune op = true
          · rw [hv]
            have HV := Lib.hid hv
            have hrng : 0 ≤ op ∧ op ≤ 1114111 := by
              unfold Lib.validRune at hv
              have := of_decide_eq_true hv
              omega
            obtain ⟨hr0, hr1⟩ := hrng
            clear hv
            by_cases hx : op = 65533
            · have HF := Lib.hid (putF_bad HE.out (by unfold badE; simp [hx]))
              have hxb : (op == 65533) = true := by simp [hx]
              clear hx
              go_wp2_with fail
              go_ret2
              exact ⟨by rw [HF.out]; rfl, HB2.out⟩
            · have hxb : (op == 65533) = false := by simp [hx]
              have HBAD : Hid (badE ⟨op, args, true, atE⟩ = false) := Lib.hid (by unfold badE; rw [HM.out, HV.out, hxb]; rfl)
              clear hx
              have hib := builder_below HB.out HBB2.out
              have HIB := Lib.hid hib
              clear hib
              go_wp2_with fail
              refine (WriteRune_any w.heap.size w.heap.size _ op (by omega) (by omega) _ HIB.out (by omega) (by omega)).mono ?_
              rintro e w3 ⟨⟨n3, rfl⟩, h3, b3, k3⟩
              have HB3 := Lib.hid (HB2.out.trans b3)
              have hs3 := b3.size
              have he3 : w3.heap[wr.heap.size]? = some (.cells #[.int .i32 op, .slice A1 args.length c1, .bool true, .int .i64 atE] 33 (0, 0)) := k3 _ _ HE2.out (fun e1 => by have := Option.some.inj e1; omega) (fun _ _ e1 => by cases e1)
              have e31 : w3.cell? ⟨wr.heap.size, 1, none⟩ = some (.slice A1 args.length c1) := by rw [Lib.cell_of_heap he3]; rfl
              have H3 := Lib.hid h3
              have hwt : args.length ≤ 100000000000 := by
                have h1 : ∀ (m : List S33) (e : S33), e ∈ m → e.f1.length ≤ (m.map weight).sum := fun m e => by
                  induction m with
                  | nil => intro h; cases h
                  | cons y r ih =>
                    intro h
                    simp only [List.map_cons, List.sum_cons]
                    rcases List.mem_cons.1 h with rfl | h
                    · unfold weight; omega
                    · have := ih h; omega
                have := h1 l _ HMEM.out
                have h2 := HOK.out.2
                show (S33.f1 ⟨op, args, true, atE⟩).length ≤ _
                omega
              clear b3 k3 he3 h3 e20 e21
              go_wp2_with fail
              refine (clone_walk A1 c1 args _ (Kd.C_below HC1.out HB3.out) hl1' (by omega)).mono ?_
              rintro e w4 ⟨v4, rfl, ho4, b4⟩
              obtain ⟨A4, k4, rfl⟩ := own_slice ho4
              have HB4 := Lib.hid (HB3.out.trans (b4.mono (by omega)))
              have hs4 := b4.size
              have hib4 := builder_below (isBuilder_of H3.out) b4
              have HO4 := Lib.hid ho4
              have HIB4 := Lib.hid hib4
              clear b4 ho4 hib4 H3 HIB e31
              go_wp2_with fail
              obtain ⟨wo, rfl⟩ : ∃ wo : World, wo = wr := ⟨_, rfl⟩
              go_loopw [41] (fun i wi => ∃ j : Nat, i = .int .i64 j ∧ j ≤ args.length ∧ Lib.IsBuilder 58 5 w.heap.size w.heap.size (Lib.byteCells (putBytes (l.take k) ++ (Lib.encodeRune op ++ argsFrom false (args.take j)))) wi ∧ wi.ownsRow w3.heap.size 51 1 (.slice A4 args.length k4) args.length (nums .u64 args) ∧ Below w.heap.size w wi) (fun i _ => args.length - (RowKit.intOf i).toNat)
              case atStart =>
                refine ⟨0, rfl, Nat.zero_le _, ?_, HO4.out, HB4.out⟩
                have e1 : Lib.byteCells (putBytes (l.take k) ++ (Lib.encodeRune op ++ argsFrom false (args.take 0))) = Lib.byteCells (putBytes (l.take k)) ++ Lib.runeCells op := by
                  rw [byteCells_app, List.take_zero]
                  simp only [argsFrom, List.append_nil]
                  rw [Lib.byteCells_encodeRune]
                rw [e1]
                exact HIB4.out
              case round =>
                obtain ⟨j, rfl, hj, hbi, hoi, hwi⟩ := hrel
                have HBI := Lib.hid hbi
                have HOI := Lib.hid hoi
                have HWI := Lib.hid hwi
                have hszi : w.heap.size < wr.heap.size := by
                  obtain ⟨cs, hcs⟩ := builder_blk hbi
                  exact blk_lt hcs
                have hbil : (Lib.byteCells (putBytes (l.take k) ++ (Lib.encodeRune op ++ argsFrom false (args.take j)))).length ≤ 10000000000000 := by
                  rw [Lib.byteCells_length, List.length_append, List.length_append]
                  have h1 := hblen
                  rw [Lib.byteCells_length] at h1
                  have h2 := encodeRune_len op
                  have h3 := argsFrom_len false (args.take j) (fun x hx => HNUM.out x (List.mem_of_mem_take hx))
                  have h4 : (args.take j).length ≤ args.length := by rw [List.length_take]; omega
                  omega
                clear hbi hoi hwi
                by_cases hjl : j < args.length
                · obtain ⟨x, hx⟩ : ∃ x, args[j]? = some x := ⟨args[j], List.getElem?_eq_getElem hjl⟩
                  have hxr := HNUM.out x (List.mem_of_getElem? hx)
                  obtain ⟨u, rfl⟩ : ∃ u : Nat, x = (u : Int) := ⟨x.toNat, by omega⟩
                  have hu64 : u < 18446744073709551616 := by omega
                  obtain ⟨g, hA4, hcell⟩ : ∃ g, A4 = some ⟨g, 0, none⟩ ∧ wr.cell? ⟨g, j, none⟩ = some (.int .u64 (u : Int)) := by
                    obtain ⟨A', c', hv, hrd⟩ := own_reads HOI.out
                    injection hv with hv1 _ _
                    subst hv1
                    obtain ⟨ad', e1, hc'⟩ := hrd.at_ (j : Int) (by omega) (by omega)
                    have hg : ∃ g, A4 = some ⟨g, 0, none⟩ := by
                      rcases HOI.out.2 with ⟨hv, _⟩ | ⟨g, cap, cur, hv, _⟩
                      · injection hv with h1 _ _; rw [h1] at e1; cases e1
                      · injection hv with h1 _ _; exact ⟨g, h1⟩
                    obtain ⟨g, hg⟩ := hg
                    refine ⟨g, hg, ?_⟩
                    rw [hg] at e1
                    injection e1 with e1
                    subst e1
                    rw [add_plain] at hc'
                    rw [Int.toNat_natCast] at hc'
                    rw [hc']
                    simp [rd, List.getD, hx]
                  subst hA4
                  have hq0 : 0 ≤ (j : Int) := Int.natCast_nonneg _
                  have hq1 : (j : Int) < (args.length : Int) := by omega
                  have HX := Lib.hid hx
                  have HTJ := Lib.hid (argsFrom_take false args j u hx)
                  clear hx hxr
                  obtain ⟨cs58, hcs58⟩ := builder_blk HBI.out
                  have HGI := Lib.hid (GG_at HG.out HWI.out)
                  have HC58 := Lib.hid hcs58
                  clear hcs58
                  cases j with
                  | zero =>
                    go_wp2_with fail
                    refine (FormatUint_str u hu64 _ HGI.out).mono ?_
                    rintro e w5 ⟨rfl, hf⟩
                    have hs5 := hf.size
                    have HIB5 := Lib.hid (builder_below HBI.out hf)
                    have HOI5 := Lib.hid (pw_own_below HOI.out hf)
                    have HW5 := Lib.hid (HWI.out.trans (hf.mono (by omega)))
                    have h585 := (hf.block _ (blk_lt HC58.out)).trans HC58.out
                    have H585 := Lib.hid h585
                    clear hf h585
                    have hdl : (decStr u).size ≤ 20 := by
                      have := decDigits_len u hu64
                      show (Lib.decDigits u).toArray.size ≤ 20
                      simpa using this
                    go_wp2_with fail
                    refine (WriteString_any w.heap.size w.heap.size _ (decStr u) _ HIB5.out (by omega) (by omega)).mono ?_
                    rintro e w6 ⟨rfl, h6, b6, k6⟩
                    have HIB6 := Lib.hid (isBuilder_of h6)
                    have HOI6 := Lib.hid (own_others HOI5.out k6 (by decide) H585.out (by decide))
                    have HW6 := Lib.hid (HW5.out.trans b6)
                    clear h6 b6 k6
                    go_wp2_with fail
                    go_roundw
                    case rel =>
                      refine ⟨0 + 1, by go_num, by omega, ?_, HOI6.out, HW6.out⟩
                      rw [HTJ.out]
                      have := HIB6.out
                      rw [strCells_dec, ← byteCells_app] at this
                      simpa [List.append_assoc] using this
                    case measure => simp [RowKit.intOf]; omega
                  | succ j =>
                    go_wp2_with fail
                    refine (WriteString_any w.heap.size w.heap.size _ ⟨#[44]⟩ _ HBI.out (by have : (⟨#[44]⟩ : ByteArray).size = 1 := rfl; omega) (by omega)).mono ?_
                    rintro e w4' ⟨rfl, h4', b4', k4'⟩
                    have hs4' := b4'.size
                    have HIBc := Lib.hid (isBuilder_of h4')
                    have HOIc := Lib.hid (own_others HOI.out k4' (by decide) HC58.out (by decide))
                    have HWc := Lib.hid (HWI.out.trans b4')
                    obtain ⟨cs4', hcs4'⟩ := builder_blk HIBc.out
                    have HCc := Lib.hid hcs4'
                    have HGc := Lib.hid (GG_at HG.out HWc.out)
                    have hcl1 : (Lib.strCells ⟨#[44]⟩).length = 1 := rfl
                    clear h4' b4' k4' hcs4'
                    go_wp2_with fail
                    refine (FormatUint_str u hu64 _ HGc.out).mono ?_
                    rintro e w5 ⟨rfl, hf⟩
                    have hs5 := hf.size
                    have HIB5 := Lib.hid (builder_below HIBc.out hf)
                    have HOI5 := Lib.hid (pw_own_below HOIc.out hf)
                    have HW5 := Lib.hid (HWc.out.trans (hf.mono (by omega)))
                    have h585 := (hf.block _ (blk_lt HCc.out)).trans HCc.out
                    have H585 := Lib.hid h585
                    clear hf h585
                    have hdl : (decStr u).size ≤ 20 := by
                      have := decDigits_len u hu64
                      show (Lib.decDigits u).toArray.size ≤ 20
                      simpa using this
                    go_wp2_with fail
                    refine (WriteString_any w.heap.size w.heap.size _ (decStr u) _ HIB5.out (by rw [List.length_append]; omega) (by omega)).mono ?_
                    rintro e w6 ⟨rfl, h6, b6, k6⟩
                    have HIB6 := Lib.hid (isBuilder_of h6)
                    have HOI6 := Lib.hid (own_others HOI5.out k6 (by decide) H585.out (by decide))
                    have HW6 := Lib.hid (HW5.out.trans b6)
                    clear h6 b6 k6
                    go_wp2_with fail
                    go_roundw
                    case rel =>
                      refine ⟨(j + 1) + 1, by go_num, by omega, ?_, HOI6.out, HW6.out⟩
                      rw [HTJ.out]
                      have := HIB6.out
                      rw [strCells_dec, show Lib.strCells ⟨#[44]⟩ = Lib.byteCells [44] from rfl, ← byteCells_app, ← byteCells_app] at this
                      simpa [List.append_assoc] using this
                    case measure => simp [RowKit.intOf]; omega
                · have hjn : args.take j = args := List.take_of_length_le (by omega)
                  have hpb : putBytes (l.take (k + 1)) = putBytes (l.take k) ++ (Lib.encodeRune op ++ argsFrom false args) := putBytes_snoc HTK.out
                  rw [hjn] at HBI
                  rw [← hpb] at HBI
                  have HGOOD := Lib.hid (put_good HTK.out HA.out HBAD.out)
                  clear hjn hpb hbil
                  go_wp2_with fail
                  go_roundw
                  case rel => exact ⟨k + 1, by go_num, by omega, HGOOD, HBI.out, HWI.out⟩
                  case measure => simp [RowKit.intOf]; omega
          · have hv' : Lib.validRune op = false := by simpa using hv
            rw [hv']
            have HF := Lib.hid (putF_bad HE.out (by unfold badE; simp [hv']))
            clear hv hv'
            go_wp2_with fail
            go_ret2
            exact ⟨by rw [HF.out]; rfl, HB2.out⟩
    · have hkl : l.take k = l := List.take_of_length_le (by omega)
      have HF : Hid (putF l = (⟨(putBytes l).toArray⟩, 0)) := Lib.hid (by
        have h1 := HA.out
        rw [hkl] at h1
        unfold putF
        rw [if_neg (by rw [h1]; decide)])
      rw [hkl] at HB
      clear hkl hblen
      go_wp2_with fail
      refine (Tryd.Builder_String_any w.heap.size w.heap.size (putBytes l) _ HB.out (by omega)).mono ?_
      rintro e w5 ⟨rfl, hb5⟩
      go_wp2_with fail
      go_ret2
      exact ⟨by rw [HF.out]; rfl, HBW.out.trans hb5⟩
end Go.Proofs.YtcldjdngfmakbaaDoor

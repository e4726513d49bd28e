/-
  strconv.ParseUint at base 10 and 64 bits, and glyph's numbers: what they answer of any text (shorter than 4294967281 bytes); where the library's variables read as laid.
-/
import Derived.Test.YtcldjdngfmakbaaDoorShelf
import Derived.Test.YtcldjdngfmakbaaDoorGround
import Derived.Test.YtcldjdngfmakbaaDoorFormat
import Derived.Test.YtcldjdngfmakbaaDoorWWords
import Derived.Lib.SplitLaws
import Derived.Lib.ParseIntBCases
import Derived.Lib.ParseIntBMem
import Derived.Lib.Hide
import Derived.WalkKit
import Derived.OwnWalk
import Derived.BigCall
import Derived.BigGuard
namespace Go.Proofs.YtcldjdngfmakbaaDoor
open Go.RowKit Go.Lib Go.Proofs.YtcldjdngfmakbaaDoorW.PrintWords
set_option linter.unusedVariables false

def decStr (u : Nat) : ByteArray := ⟨(decDigits u).toArray⟩
theorem FormatUint_str (u : Nat) (hu64 : u < 18446744073709551616) (w : World) (hG : GG w) :
    Calls Tryd.prog 26 #[.int .u64 u, .int .i64 10] w fun e w' => e = .returned (.string (decStr u)) ∧ Below w.heap.size w w' := FormatUint_any u hu64 w hG

/-- The number that a part is, if it is one. -/
def numOf (x : ByteArray) : Option Nat :=
  match parseUintB 64 x.data.toList with
  | .ok u => if (decStr u).toList = x.toList then some u else none
  | _ => none
def numsFrom : List ByteArray → Option (List Int)
  | [] => some []
  | x :: r => match numOf x with
    | none => none
    | some u => (numsFrom r).map (fun l => (u : Int) :: l)
def comma_ : ByteArray := ⟨#[44]⟩
def piecesOf (s : ByteArray) : List ByteArray := splitB comma_ 0 (countB s comma_) s
def numsOf (s : ByteArray) : List Int × Bool :=
  if s.toList = [] then ([], true) else match numsFrom (piecesOf s) with
  | some l => (l, true)
  | none => ([], false)

theorem numOf_lt {x : ByteArray} {u : Nat} (h : numOf x = some u) : u < 18446744073709551616 := by
  unfold numOf at h
  split at h
  · rename_i v hv
    have := parseUintB_le hv
    split at h
    · injection h with h; omega
    · cases h
  · cases h

theorem pieces_length (s : ByteArray) : (piecesOf s).length = countB s comma_ + 1 := splitB_all comma_ (by decide) 0 _ s rfl
theorem pieces_le (s : ByteArray) : (piecesOf s).length ≤ s.size + 1 := by
  rw [pieces_length]
  have := countB_le comma_ (by decide) s.size s (Nat.le_refl _)
  omega

/-- What ParseUint answers, in one form. -/
def ParsePost (x : ByteArray) (w : World) (e : Ending) (w' : World) : Prop :=
  (∃ u : Nat, parseUintB 64 x.data.toList = .ok u ∧ e = .returned (.tuple #[.int .u64 u, .nilIface]) ∧ Below w.heap.size w w') ∨
  ((∀ u, parseUintB 64 x.data.toList ≠ .ok u) ∧ (∃ (n : Int) (N : Nat), e = .returned (.tuple #[.int .u64 n, .iface 97 (.pointer (some ⟨N, 0, none⟩))])) ∧ Below w.heap.size w w')

theorem ParseUint_any (x : ByteArray) (hs : x.size ≤ 281474976710656) (w : World) (hG : GG w) :
    Calls Tryd.prog 35 #[.string x, .int .i64 10, .int .i64 64] w (ParsePost x w) := by
  rcases h : parseUintB 64 x.data.toList with u | _ | _
  · refine (Tryd.strconv_ParseUint_10_at64_ok x (by omega) u h w).mono ?_
    rintro e w' ⟨rfl, hw⟩
    refine .inl ⟨u, h, rfl, ?_⟩
    rcases hw with rfl | rfl
    · exact Below.refl _ _
    · exact bytesWorld_below _ _ _
  · obtain ⟨ev, h1, h2⟩ := hG.syn
    refine (Tryd.strconv_ParseUint_10_at64_syntax x hs h ev w h1 h2).mono ?_
    rintro e w' ⟨N, rfl, _, _, hb⟩
    exact .inr ⟨(fun u hu => by rw [h] at hu; cases hu), ⟨_, _, rfl⟩, hb⟩
  · obtain ⟨ev, h1, h2⟩ := hG.ran
    refine (Tryd.strconv_ParseUint_10_at64_range x hs h ev w h1 h2).mono ?_
    rintro e w' ⟨N, rfl, _, _, hb⟩
    exact .inr ⟨(fun u hu => by rw [h] at hu; cases hu), ⟨_, _, rfl⟩, hb⟩

theorem infoU64_ : (Tryd.prog.info? 51).map (fun i => (i.zero, i.size, i.bytes)) = some (some (.int .u64 0), 1, 8) := by kernel_rfl

/-- What numbers answers. -/
def NumsPost (s : ByteArray) (w : World) (e : Ending) (w' : World) : Prop :=
  ∃ v, e = .returned (.tuple #[v, .bool (numsOf s).2]) ∧ w'.ownsRow w.heap.size 51 1 v (numsOf s).1.length ((numsOf s).1.map (Value.int .u64)) ∧ Below w.heap.size w w'

theorem extract_size_le (s : ByteArray) (a b : Nat) : (s.extract a b).size ≤ s.size := by
  rw [ByteArray.size_extract]; omega

theorem piece_size (sep : ByteArray) (save : Nat) : ∀ (k : Nat) (s x : ByteArray), x ∈ splitB sep save k s → x.size ≤ s.size
  | 0, s, x, h => by rw [splitB_zero] at h; simp at h; rw [h]; exact Nat.le_refl _
  | k + 1, s, x, h => by
    unfold splitB at h
    split at h
    · simp at h; rw [h]; exact Nat.le_refl _
    · rcases List.mem_cons.1 h with rfl | h
      · exact extract_size_le _ _ _
      · exact Nat.le_trans (piece_size sep save k _ x h) (extract_size_le _ _ _)

def SomeN (P : Nat → List Int → Prop) (i : Value) (wr : World) (v : Value) (Q : List Int → World → Value → Prop) : Prop := ∃ (k : Nat) (acc : List Int), i = .int .i64 k ∧ P k acc ∧ Q acc wr v

set_option maxHeartbeats 4000000 in
set_option maxRecDepth 100000 in
theorem numbers_walk (s : ByteArray) (w : World) (hs : s.size < 4294967281) (hG : GG w) :
    Calls Tryd.prog 20 #[.string s] w (NumsPost s w) := by
  by_cases hse : s.toList = []
  · have HF : Hid (numsOf s = ([], true)) := Lib.hid (by unfold numsOf; rw [if_pos hse])
    go_enter Tryd.func20, Tryd.ntmps20
    go_wp2_with fail
    go_ret2
    refine ⟨.slice none 0 0, ?_, ?_, Below.refl _ _⟩
    · rw [HF.out]; rfl
    · rw [HF.out]; exact World.ownsRow_nil _ _ _ _
  · have HE := Lib.hid hse
    have hne : (!s.toList.isEmpty) = true := by simp [hse]
    have hne2 : s.toList.isEmpty = false := by simp [hse]
    clear hse
    obtain ⟨i0, hi, hz0, hz1, hz2⟩ := info_parts infoU64_
    obtain ⟨m, hm⟩ := hG.maxLen
    obtain ⟨ps, hps⟩ : ∃ ps, ps = piecesOf s := ⟨_, rfl⟩
    have hpl : countB s comma_ + 1 = ps.length := by rw [hps]; exact (pieces_length s).symm
    have hple : ps.length ≤ s.size + 1 := by rw [hps]; exact pieces_le s
    have hsp := Tryd.strings_Split s comma_ m w hs hm (by decide)
    rw [hpl, show splitB comma_ 0 (countB s comma_) s = ps from hps.symm] at hsp
    have hpz : ∀ x, x ∈ ps → x.size ≤ s.size := fun x hx => piece_size comma_ 0 _ s x (by rw [hps] at hx; exact hx)
    have HPS := Lib.hid hps
    have HPZ := Lib.hid hpz
    clear hps hpl hpz hm
    have hb0 : Below w.heap.size w (w.alloc (.cells (ps.map Value.string).toArray 9)) := (Below.refl _ w).alloc (Nat.le_refl _) _
    have hc0 : (w.alloc (.cells (ps.map Value.string).toArray 9)).heap[w.heap.size]? = some (.cells (ps.map Value.string).toArray 9) := heap_alloc_new w _
    have HSP := Lib.hid hsp
    have HC0 := Lib.hid hc0
    have HB0 := Lib.hid hb0
    clear hsp hc0 hb0
    go_enter Tryd.func20, Tryd.ntmps20
    go_wp2_with fail
    refine HSP.out.mono ?_
    rintro e wp ⟨rfl, hwp⟩
    have hsz1 : wp.heap.size = w.heap.size + 1 := by rw [hwp]; simp
    have HSZ := Lib.hid hsz1
    have hszle : w.heap.size + 1 ≤ wp.heap.size := by omega
    have HC1 : Hid (wp.heap[w.heap.size]? = some (.cells (ps.map Value.string).toArray 9)) := Lib.hid (by rw [hwp]; exact HC0.out)
    have HB1 : Hid (Below w.heap.size w wp) := Lib.hid (by rw [hwp]; exact HB0.out)
    clear hwp hsz1 HC0 HB0 HSP
    go_wp2_with fail
    go_loopw [4, 14] (fun v i wr => ∃ (k : Nat) (acc : List Int), i = .int .i64 k ∧ k ≤ ps.length ∧ acc.length = k ∧ Hid (numsFrom ps = (numsFrom (ps.drop k)).map (fun l => acc ++ l)) ∧ wr.ownsRow (w.heap.size + 1) 51 1 v acc.length (acc.map (Value.int .u64)) ∧ Below (w.heap.size + 1) wp wr) (fun _ i _ => ps.length - (RowKit.intOf i).toNat)
    case atStart =>
      refine ⟨0, [], rfl, Nat.zero_le _, rfl, Lib.hid ?_, World.ownsRow_nil _ _ _ _, Below.refl _ _⟩
      simp
    case round =>
      obtain ⟨k, acc, rfl, hk, hacc, H, hown, hbw⟩ := hrel
      have hGr : GG wr := GG_same (GG_at hG HB1.out) (fun i hi => hbw.block i (by have := HSZ.out; omega))
      have hsr := hbw.size
      by_cases hlt : k < ps.length
      · obtain ⟨x, hx⟩ : ∃ x, ps[k]? = some x := ⟨ps[k], List.getElem?_eq_getElem hlt⟩
        have hxs : x.size ≤ s.size := HPZ.out x (List.mem_of_getElem? hx)
        have hdr : ps.drop k = x :: ps.drop (k + 1) := by
          rw [List.drop_eq_getElem_cons hlt]
          rw [List.getElem?_eq_getElem hlt] at hx
          injection hx with hx
          rw [hx]
        have hcell : wr.cell? ⟨w.heap.size, k, none⟩ = some (.string x) := by
          have h1 : wr.heap[w.heap.size]? = some (.cells (ps.map Value.string).toArray 9) := (hbw.block _ (by omega)).trans HC1.out
          rw [Lib.cell_of_heap h1]
          simp [hx]
        have HX := Lib.hid hx
        have HD := Lib.hid hdr
        have HA := Lib.hid hacc
        have HGr := Lib.hid hGr
        clear hx hdr hacc hGr
        go_wp2_with fail
        refine (ParseUint_any x (by omega) _ HGr.out).mono ?_
        rintro e w2 (⟨u, hu, rfl, hb2⟩ | ⟨hno, ⟨n, N, rfl⟩, hb2⟩)
        · have hu64 : u < 18446744073709551616 := by have := parseUintB_le hu; omega
          have HU := Lib.hid hu
          clear hu
          by_cases heq : (decStr u).toList = x.toList
          · have HNUM : Hid (numOf x = some u) := Lib.hid (by unfold numOf; rw [HU.out]; exact if_pos heq)
            have heb : ((decStr u).toList == x.toList) = true := by rw [heq]; exact beq_self_eq_true _
            have HEQ := Lib.hid heq
            clear heq
            have hG2 := GG_at HGr.out hb2
            have HG2 := Lib.hid hG2
            clear hG2
            go_wp2_with fail
            refine (FormatUint_str u hu64 _ HG2.out).mono ?_
            rintro e w3 ⟨rfl, hb3⟩
            have hb23 : Below wr.heap.size wr w3 := hb2.trans (hb3.mono hb2.size)
            have hs3 := hb23.size
            have hown3 := hown.kept (w' := w3) (row := none) ⟨hb23.os, hb23.tape, hb23.output, hb23.size, fun i hi _ => hb23.block i hi⟩ (by cases v : Value.ownBlock _ <;> simp)
            have HEB := Lib.hid heb
            have hacl : acc.length = k := HA.out
            have HACL := Lib.hid hacl
            have hacle : acc.length ≤ s.size + 1 := by omega
            clear hacl hb2 hb3 hown
            go_wp2_with (at_builtin; refine wpList_append_own _ rfl _ _ 27 rfl (w.heap.size + 1) 51 i0 (.int .u64 0) 1 8 Tryd.underlying27 hi hz0 hz1 hz2 rfl (by decide) _ _ _ rfl (hown3.alloc _) ⟨w3.heap.size, 0, none⟩ 1 1 [.int .u64 u] rfl rfl ?c1 ?c2 ?c3 ?c4 ?c5 ?_)
            case c1 =>
              intro j y hj
              match j, hj with
              | 0, hj => simp at hj; subst hj; exact (World.cell?_alloc_new _ _ _ _).trans (by simp)
              | j + 1, hj => simp at hj
            case c2 => intro y hy; simp at hy; subst hy; rfl
            case c3 => unfold maxLen; omega
            case c4 => omega
            case c5 => simp; omega
            intro v' w4 hown4 hgrow _
            go_wp2_with fail
            go_roundw
            case rel =>
              refine ⟨k + 1, acc ++ [(u : Int)], by go_num, by omega, by simp; exact HACL.out, Lib.hid ?_, ?_, ?_⟩
              · rw [H.out, HD.out]
                simp only [numsFrom, HNUM.out]
                cases numsFrom (ps.drop (k + 1)) <;> simp
              · simpa using hown4
              · exact ((hbw.trans (hb23.mono (by omega))).alloc (by omega) _).grown hgrow (by simp; omega) (fun k hk => (hown3.lt k hk).1)
            case measure => simp [RowKit.intOf]; omega
          · have HNUM : Hid (numOf x = none) := Lib.hid (by unfold numOf; rw [HU.out]; exact if_neg heq)
            have heb : ((decStr u).toList == x.toList) = false := beq_eq_false_iff_ne.2 heq
            clear heq
            have hG2 := GG_at HGr.out hb2
            have HG2 := Lib.hid hG2
            clear hG2
            go_wp2_with fail
            refine (FormatUint_str u hu64 _ HG2.out).mono ?_
            rintro e w3 ⟨rfl, hb3⟩
            have hb23 : Below wr.heap.size wr w3 := hb2.trans (hb3.mono hb2.size)
            have HF : Hid (numsOf s = ([], false)) := Lib.hid (by
              unfold numsOf; rw [if_neg HE.out, ← HPS.out, H.out, HD.out]
              simp only [numsFrom, HNUM.out, Option.map_none])
            go_wp2_with fail
            go_ret2
            refine ⟨.slice none 0 0, by rw [HF.out]; rfl, by rw [HF.out]; exact World.ownsRow_nil _ _ _ _, ?_⟩
            exact HB1.out.trans ((hbw.mono (by omega)).trans (hb23.mono (by omega)))
        · have HNUM : Hid (numOf x = none) := Lib.hid (by
            unfold numOf
            split
            · rename_i u hu; exact absurd hu (hno u)
            · rfl)
          clear hno
          have HF : Hid (numsOf s = ([], false)) := Lib.hid (by
            unfold numsOf; rw [if_neg HE.out, ← HPS.out, H.out, HD.out]
            simp only [numsFrom, HNUM.out, Option.map_none])
          go_wp2_with fail
          go_ret2
          refine ⟨.slice none 0 0, by rw [HF.out]; rfl, by rw [HF.out]; exact World.ownsRow_nil _ _ _ _, ?_⟩
          exact HB1.out.trans ((hbw.mono (by omega)).trans (hb2.mono (by omega)))
      · have hkl : k = ps.length := by omega
        have HF : Hid (numsOf s = (acc, true)) := Lib.hid (by
          unfold numsOf; rw [if_neg HE.out, ← HPS.out, H.out, hkl]
          simp [numsFrom])
        clear hkl
        have HA := Lib.hid hacc
        clear hacc
        go_wp2_with fail
        go_ret2
        refine ⟨_, by rw [HF.out]; rfl, by rw [HF.out]; exact own_weaken hown (by omega), HB1.out.trans (hbw.mono (by omega))⟩
end Go.Proofs.YtcldjdngfmakbaaDoor

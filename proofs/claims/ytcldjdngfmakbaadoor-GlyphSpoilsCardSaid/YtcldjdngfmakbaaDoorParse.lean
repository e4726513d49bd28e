/-
  glyph.Parse: the entries of any text (of at most 100000000 bytes), as a fold over its runes; where the library's variables read as laid.
-/
import Derived.Test.YtcldjdngfmakbaaDoorClose
namespace Go.Proofs.YtcldjdngfmakbaaDoor
open Go.RowKit Go.Proofs.YtcldjdngfmakbaaDoor.G Go.Proofs.YtcldjdngfmakbaaDoorW.PrintWords
set_option linter.unusedVariables false
set_option linter.unusedSimpArgs false

structure PSt where
  es : List S33
  txt : List Int
  opn : Bool
def blanks_ : ByteArray := ⟨#[32, 9, 10]⟩
def isBlank (r : Int) : Bool := ofB blanks_ r
def newE (r : Int) (at_ : Nat) : S33 := ⟨r, [], false, (at_ : Int)⟩
def stepP (st : PSt) (p : Nat × Int) : PSt :=
  if isBlank p.2 = true then ⟨closeF st.es st.txt st.opn, [], false⟩
  else if st.opn = true ∧ isNum p.2 = true then ⟨st.es, st.txt ++ [p.2], st.opn⟩
  else ⟨closeF st.es st.txt st.opn ++ [newE p.2 p.1], [], true⟩
def endP (st : PSt) : List S33 := closeF st.es st.txt st.opn
def parseF (s : ByteArray) : List S33 := endP ((runesOf s).foldl stepP ⟨[], [], false⟩)

theorem stepP_blank {es : List S33} {txt : List Int} {opn : Bool} {at_ : Nat} {r : Int} (h : isBlank r = true) : stepP ⟨es, txt, opn⟩ (at_, r) = ⟨closeF es txt opn, [], false⟩ := by
  unfold stepP; rw [if_pos h]
theorem stepP_num {es : List S33} {txt : List Int} {at_ : Nat} {r : Int} (h : ¬ isBlank r = true) (hn : isNum r = true) : stepP ⟨es, txt, true⟩ (at_, r) = ⟨es, txt ++ [r], true⟩ := by
  unfold stepP; rw [if_neg h, if_pos ⟨rfl, hn⟩]
theorem stepP_new {es : List S33} {txt : List Int} {opn : Bool} {at_ : Nat} {r : Int} (h : ¬ isBlank r = true) (hn : ¬ (opn = true ∧ isNum r = true)) : stepP ⟨es, txt, opn⟩ (at_, r) = ⟨closeF es txt opn ++ [newE r at_], [], true⟩ := by
  unfold stepP; rw [if_neg h, if_neg hn]
theorem closeF_length (es : List S33) (txt : List Int) (opn : Bool) : (closeF es txt opn).length = es.length := by
  unfold closeF; split <;> simp

theorem Vars.iter {w : World} {B bo bq bt bi : Nat} {vo : Value} {es : List S33} {opn : Bool} {gt ct pos : Nat} {txt : List Int} {s : ByteArray} (h : Vars w B bo bq bt vo es opn gt ct txt) (hi : w.heap[bi]? = some (.stringIter s pos)) (pos' : Nat) :
    Vars (w.iterAt bi s pos') B bo bq bt vo es opn gt ct txt := by
  have hne : ∀ k cells t, w.heap[k]? = some (.cells cells t (0, 0)) → k ≠ bi := fun k cells t hc e => by rw [e, hi] at hc; cases hc
  obtain ⟨cx, hx⟩ := h.text.blk
  refine ⟨(Lib.iterAt_other w bi _ s pos' (hne _ _ _ h.o)).trans h.o, (Lib.iterAt_other w bi _ s pos' (hne _ _ _ h.q)).trans h.q, (Lib.iterAt_other w bi _ s pos' (hne _ _ _ h.t)).trans h.t, h.bo, h.bq, h.bt, ?_, h.text.keep (Lib.iterAt_other w bi _ s pos' (hne _ _ _ hx))⟩
  refine Kd.S_mono (Kd.S_step (Kd.S_bound h.row) (fun k hk hlt => ?_)) (fun _ _ => trivial)
  obtain ⟨_, _, _, q, _, cells, hc⟩ := hk
  exact Lib.iterAt_other w bi _ s pos' (hne _ _ _ hc)

theorem close_any (w : World) (B bo bq bt : Nat) (vo : Value) (es : List S33) (opn : Bool) (gt ct : Nat) (txt : List Int) (hv : Vars w B bo bq bt vo es opn gt ct txt) (hne : opn = true → es ≠ []) (hml : es.length < 4294967296) (htx : txt.length < 1000000000) (hG : GG w) (hBw : B ≤ w.heap.size) :
    Calls Tryd.prog 19 #[.pointer (some ⟨bo, 0, none⟩), .pointer (some ⟨bq, 0, none⟩), .pointer (some ⟨bt, 0, none⟩)] w (ClosePost w B bo bq bt vo es opn gt ct txt) := by
  cases opn with
  | false =>
    obtain ⟨A, c, rfl⟩ := Kd.S_slice hv.row
    exact close_no w B bo bq bt A c es gt ct txt hv
  | true =>
    obtain ⟨m, hm⟩ : ∃ m, es.length = m + 1 := ⟨es.length - 1, by have := List.length_pos_iff.2 (hne rfl); omega⟩
    exact close_yes w B bo bq bt vo es gt ct m txt hv hm (by omega) htx hG hBw

/-- What a round begins with. -/
structure Inv (w : World) (s : ByteArray) (wr : World) (pos fuel : Nat) (vo : Value) (st : PSt) (gt ct : Nat) : Prop where
  vars : Vars wr w.heap.size w.heap.size (w.heap.size + 1 + 1 + 1) (w.heap.size + 1 + 1) vo st.es st.opn gt ct st.txt
  it : wr.heap[w.heap.size + 1 + 1 + 1 + 1]? = some (.stringIter s pos)
  below : Below w.heap.size w wr
  fold : (runesFrom s fuel pos).foldl stepP st = (runesOf s).foldl stepP ⟨[], [], false⟩
  size : s.size ≤ pos + fuel
  esl : st.es.length ≤ pos
  txl : st.txt.length ≤ pos
  opn : st.opn = true → st.es ≠ []
  esS : st.es.length ≤ s.size
  txS : st.txt.length ≤ s.size

theorem Inv.start (w : World) (s : ByteArray) : Inv w s (((((w.alloc (.cells #[.slice none 0 0] 25)).alloc (.cells #[] 21)).alloc (.cells #[.slice (some ⟨w.heap.size + 1, 0, none⟩) 0 0] 48)).alloc (.cells #[.bool false] 4)).iter s 0) 0 s.size (.slice none 0 0) ⟨[], [], false⟩ (w.heap.size + 1) 0 := by
  obtain ⟨W, hW⟩ : ∃ W, W = ((((w.alloc (.cells #[.slice none 0 0] 25)).alloc (.cells #[] 21)).alloc (.cells #[.slice (some ⟨w.heap.size + 1, 0, none⟩) 0 0] 48)).alloc (.cells #[.bool false] 4)) := ⟨_, rfl⟩
  rw [← hW]
  have hsz : W.heap.size = w.heap.size + 1 + 1 + 1 + 1 := by rw [hW]; simp
  have hb : Below w.heap.size w W := by rw [hW]; exact below_alloc (below_alloc (below_alloc (below_alloc (Below.refl _ _) _) _) _) _
  have h0 : W.heap[w.heap.size]? = some (.cells #[.slice none 0 0] 25 (0, 0)) := by
    rw [hW, Below.heap_alloc _ _ _ (by simp; omega), Below.heap_alloc _ _ _ (by simp; omega), Below.heap_alloc _ _ _ (by simp)]; exact heap_alloc_new w _
  have h1 : W.heap[w.heap.size + 1]? = some (.cells #[] 21 (0, 0)) := by
    rw [hW, Below.heap_alloc _ _ _ (by simp; try omega), Below.heap_alloc _ _ _ (by simp)]
    have := heap_alloc_new (w.alloc (.cells #[.slice none 0 0] 25)) (.cells #[] 21)
    simpa using this
  have h2 : W.heap[w.heap.size + 1 + 1]? = some (.cells #[.slice (some ⟨w.heap.size + 1, 0, none⟩) 0 0] 48 (0, 0)) := by
    rw [hW, Below.heap_alloc _ _ _ (by simp)]
    have := heap_alloc_new ((w.alloc (.cells #[.slice none 0 0] 25)).alloc (.cells #[] 21)) (.cells #[.slice (some ⟨w.heap.size + 1, 0, none⟩) 0 0] 48)
    simpa using this
  have h3 : W.heap[w.heap.size + 1 + 1 + 1]? = some (.cells #[.bool false] 4 (0, 0)) := by
    rw [hW]
    have := heap_alloc_new (((w.alloc (.cells #[.slice none 0 0] 25)).alloc (.cells #[] 21)).alloc (.cells #[.slice (some ⟨w.heap.size + 1, 0, none⟩) 0 0] 48)) (.cells #[.bool false] 4)
    simpa using this
  have hv : Vars W w.heap.size w.heap.size (w.heap.size + 1 + 1 + 1) (w.heap.size + 1 + 1) (.slice none 0 0) [] false (w.heap.size + 1) 0 [] :=
    ⟨h0, h3, h2, Nat.le_refl _, by omega, by omega, Kd.S_nil _ _ _ _ _, ⟨by simp [nums], .inr ⟨w.heap.size + 1, 0, #[], rfl, by omega, h1, Nat.le_refl _, by simp, by simp, by simp [nums]⟩⟩⟩
  have hi := World.iter_heap W s 0
  rw [hsz] at hi
  refine ⟨hv.below ?_, hi, hb.trans (?_), rfl, by omega, by simp, by simp, by simp, by simp, by simp⟩
  · exact below_alloc (Below.refl _ _) _
  · exact (Below.refl _ W).alloc (by omega) _

set_option maxHeartbeats 16000000 in
set_option maxRecDepth 100000 in
theorem parse_walk (s : ByteArray) (w : World) (hs : s.size ≤ 100000000) (hG : GG w) :
    Calls Tryd.prog 12 #[.string s] w fun e w' => ∃ v0_ : Value, e = .returned (v0_) ∧ Kd.S k33 33 w' w.heap.size (fun _ => True) v0_ (parseF s) ∧ Below w.heap.size w w' := by
  have hmf : ∀ (fn : Fn) (first cap : Array Value) (w : World), (Instr.makeFunc fn first cap).run Tryd.prog w = .ok (.func fn first cap) w := fun _ _ _ _ => rfl
  have HG := Lib.hid hG
  clear hG
  go_enter Tryd.func12, Tryd.ntmps12
  go_wp2_with fail
  go_loopw [] (fun wr => ∃ pos fuel vo st gt ct, Inv w s wr pos fuel vo st gt ct) (fun wr => s.size - wr.iterPos (w.heap.size + 1 + 1 + 1 + 1))
  case atStart => exact ⟨0, s.size, _, _, _, _, Inv.start w s⟩
  case round =>
    obtain ⟨pos, fuel, vo, st, gt, ct, hI⟩ := hrel
    have hit := hI.it
    have hGr := GG_at HG.out hI.below
    have HGr := Lib.hid hGr
    have hszr : w.heap.size + 1 + 1 + 1 + 1 < wr.heap.size := (Array.getElem?_eq_some_iff.1 hit).1
    clear hGr
    by_cases hp : pos < s.size
    · have hnx : ∀ ty, (Instr.next (.pointer (some ⟨w.heap.size + 1 + 1 + 1 + 1, 0, none⟩)) true ty).run Tryd.prog wr = _ := fun ty => Lib.run_next_any_at wr (w.heap.size + 1 + 1 + 1 + 1) s pos ty hit hp
      have hwd := width_pos s pos hp
      have hd1 := decode_le s pos
      obtain ⟨f, rfl⟩ : ∃ f, fuel = f + 1 := ⟨fuel - 1, by have := hI.size; omega⟩
      have HNX := Lib.hid hnx
      have hI2 : Inv w s (wr.iterAt (w.heap.size + 1 + 1 + 1 + 1) s (pos + (Utf8.decode s pos).2)) (pos + (Utf8.decode s pos).2) f vo (stepP st (pos, ((Utf8.decode s pos).1 : Int))) gt ct → True := fun _ => trivial
      have hv2 := hI.vars.iter hit (pos + (Utf8.decode s pos).2)
      have hit2 := Lib.iterAt_heap wr _ s pos (pos + (Utf8.decode s pos).2) hit
      have hbw2 := Lib.below_iterAt hI.below (k := w.heap.size + 1 + 1 + 1 + 1) (by omega) s (pos + (Utf8.decode s pos).2)
      have hfold : (runesFrom s f (pos + (Utf8.decode s pos).2)).foldl stepP (stepP st (pos, ((Utf8.decode s pos).1 : Int))) = (runesOf s).foldl stepP ⟨[], [], false⟩ := by
        rw [← hI.fold, runesFrom_step _ _ _ hp]; rfl
      have hsz := hI.size
      have hesl := hI.esl
      have htxl := hI.txl
      have hopn := hI.opn
      clear hI2 hI
      obtain ⟨wd, hwdd⟩ : ∃ wd, wd = (Utf8.decode s pos).2 := ⟨_, rfl⟩
      obtain ⟨r, hr⟩ : ∃ r : Int, r = ((Utf8.decode s pos).1 : Int) := ⟨_, rfl⟩
      rw [← hwdd] at hnx hv2 hit2 hbw2 hfold hwd
      rw [← hr] at hnx hfold
      obtain ⟨w2, hw2⟩ : ∃ w2, w2 = wr.iterAt (w.heap.size + 1 + 1 + 1 + 1) s (pos + wd) := ⟨_, rfl⟩
      rw [← hw2] at hnx hv2 hit2 hbw2
      have hG2 := GG_at HG.out hbw2
      have hsz2 : w.heap.size + 1 + 1 + 1 + 1 < w2.heap.size := (Array.getElem?_eq_some_iff.1 hit2).1
      obtain ⟨es, txt, opn⟩ := st
      have HV2 := Lib.hid hv2
      have HIT2 := Lib.hid hit2
      have HIT := Lib.hid hit
      have HBW2 := Lib.hid hbw2
      have HF := Lib.hid hfold
      have HOPN := Lib.hid hopn
      have HG2 := Lib.hid hG2
      have hposle : pos ≤ 100000000 := by omega
      clear hv2 hit2 hbw2 hfold hopn hG2 hwdd hr hw2 hit HNX hd1 HGr
      have hesl' : es.length ≤ pos := hesl
      have htxl' : txt.length ≤ pos := htxl
      clear hesl htxl
      go_wp2_with fail
      refine (of_walk blanks_ r _ (by decide)).mono ?_
      rintro e w3 ⟨rfl, hb3⟩
      have hs3 := hb3.size
      have HV3 := Lib.hid (HV2.out.below hb3)
      have HIT3 : Hid (w3.heap[w.heap.size + 1 + 1 + 1 + 1]? = some (.stringIter s (pos + wd))) := Lib.hid ((hb3.block _ hsz2).trans HIT2.out)
      have HBW3 := Lib.hid (HBW2.out.trans (hb3.mono (by omega)))
      have HG3 := Lib.hid (GG_at HG2.out hb3)
      clear hb3 HV2 HIT2 HBW2 HG2
      by_cases hbl : ofB blanks_ r = true
      · rw [hbl]
        have HBL := Lib.hid hbl
        clear hbl
        go_wp2_with fail
        refine (close_any _ _ _ _ _ _ _ _ _ _ _ HV3.out HOPN.out (by omega) (by omega) HG3.out (by omega)).mono ?_
        rintro e w4 ⟨rfl, hv4, hb4, hk4⟩
        have hs4 := hb4.size
        have HV4 := Lib.hid hv4
        have HB4 := Lib.hid hb4
        have HK4 := Lib.hid hk4
        clear hv4 hb4 hk4
        go_wp2_with fail
        have hit4 : w4.heap[w.heap.size + 1 + 1 + 1 + 1]? = some (.stringIter s (pos + wd)) := (HK4.out.2 _ (by omega) (by
          rintro (h | h | h)
          · omega
          · omega
          · obtain ⟨cells, hc⟩ := Kd.S_typed HV3.out.row _ h.symm
            rw [HIT3.out] at hc
            cases hc)).trans HIT3.out
        have HIT4 := Lib.hid hit4
        clear hit4
        go_roundw
        case rel =>
          exact ⟨pos + wd, f, vo, ⟨closeF es txt opn, [], false⟩, gt, ct, HV4.out, HIT4.out, HBW3.out.trans HB4.out, by rw [← stepP_blank HBL.out]; exact HF.out, by omega, by show (closeF es txt opn).length ≤ _; rw [closeF_length]; omega, by simp, by simp, by show (closeF es txt opn).length ≤ _; rw [closeF_length]; omega, by simp⟩
        case measure =>
          simp only [World.iterPos, HIT4.out, HIT.out]
          omega
      · have hbl' : ofB blanks_ r = false := by simpa using hbl
        rw [hbl']
        have HBL : Hid (¬ isBlank r = true) := Lib.hid hbl
        clear hbl hbl'
        have qc3 : w3.cell? ⟨w.heap.size + 1 + 1 + 1, 0, none⟩ = some (.bool opn) := by rw [Lib.cell_of_heap HV3.out.q]; rfl
        cases opn with
        | false =>
          have HNN : Hid (¬ (false = true ∧ isNum r = true)) := Lib.hid (by simp)
          -- the entry before is shut, a new one begins
          go_wp2_with fail
          refine (close_any _ _ _ _ _ _ _ _ _ _ _ HV3.out (fun h => by cases h) (by omega) (by omega) HG3.out (by omega)).mono ?_
          rintro e w4 ⟨rfl, hv4, hb4, hk4⟩
          have hs4 := hb4.size
          have HBW4 := Lib.hid (HBW3.out.trans hb4)
          have hit4 : w4.heap[w.heap.size + 1 + 1 + 1 + 1]? = some (.stringIter s (pos + wd)) := (hk4.2 _ (by omega) (by
            rintro (h | h | h)
            · omega
            · omega
            · obtain ⟨cells, hc⟩ := Kd.S_typed HV3.out.row _ h.symm
              rw [HIT3.out] at hc
              cases hc)).trans HIT3.out
          have HIT4 := Lib.hid hit4
          have HV4 := Lib.hid hv4
          have c4 : w4.cell? ⟨w.heap.size, 0, none⟩ = some vo := by rw [Lib.cell_of_heap hv4.o]; rfl
          obtain ⟨A4, k4, hvo4⟩ := Kd.S_slice hv4.row
          rw [hvo4] at c4
          have HVO := Lib.hid hvo4
          have hlen4 : (closeF es txt false).length = es.length := closeF_length _ _ _
          have HL4 := Lib.hid hlen4
          clear hv4 hb4 hk4 hit4 hvo4 hlen4
          have hf4 : w4.frozen? ⟨w.heap.size, 0, none⟩ = false := Lib.frozen_of_heap HV4.out.o 0
          have hq4 : w4.cell? ⟨w.heap.size + 1 + 1 + 1, 0, none⟩ = some (.bool false) := by rw [Lib.cell_of_heap HV4.out.q]; rfl
          have hfq4 : w4.frozen? ⟨w.heap.size + 1 + 1 + 1, 0, none⟩ = false := Lib.frozen_of_heap HV4.out.q 0
          have hsz4 : w.heap.size + 1 + 1 + 1 + 1 < w4.heap.size := (Array.getElem?_eq_some_iff.1 HIT4.out).1
          go_wp2_with (at_builtin; refine Kd.S_append k33 (w0 := w) (W := w4) w.heap.size rfl _ _ 25 33 _ 48 rfl Tryd.underlying25 info33 rfl (by decide) (by decide) (.slice A4 (closeF es txt false).length k4) (closeF es txt false) (newE r pos) [.int .i32 r, .slice none 0 0, .bool false, .int .i64 (pos : Int)] (fun _ => True) (fun _ => False) rfl rfl (k33_mkM w4 w.heap.size _ (newE r pos) (Kd.R_nil _ _ _ _ _)) (fun _ h => h.elim) (fun _ _ => trivial) ?hS HBW4.out ?hb ?hl ?_)
          case hS => rw [← HVO.out]; exact Kd.S_mono HV4.out.row (fun _ _ => ⟨trivial, fun h => h⟩)
          case hb => omega
          case hl => have := HL4.out; omega
          intro v5 w5 hS5 hb5 hg5 hat5
          have ho4 := HV4.out.o
          have hob : ∀ (k : Nat) (cells : Array Value) (t : TypeId), w4.heap[k]? = some (.cells cells t (0, 0)) → t ≠ 33 → w5.heap[k]? = w4.heap[k]? := fun k cells t hc ht => hg5.block k (blk_lt hc) (fun e => by
            obtain ⟨cells', hc'⟩ := Kd.S_typed HV4.out.row k (by rw [HVO.out]; exact e.symm)
            rw [hc] at hc'
            cases hc'
            exact ht rfl)
          have o5 : w5.heap[w.heap.size]? = some (.cells #[vo] 25 (0, 0)) := (hob _ _ _ ho4 (by decide)).trans ho4
          have q5 : w5.heap[w.heap.size + 1 + 1 + 1]? = some (.cells #[.bool false] 4 (0, 0)) := (hob _ _ _ HV4.out.q (by decide)).trans HV4.out.q
          have t5 : w5.heap[w.heap.size + 1 + 1]? = some (.cells #[.slice (some ⟨gt, 0, none⟩) 0 ct] 48 (0, 0)) := (hob _ _ _ HV4.out.t (by decide)).trans HV4.out.t
          have x5 : TextRow w5 w.heap.size gt ct [] := by
            obtain ⟨cx, hx⟩ := HV4.out.text.blk
            exact HV4.out.text.keep (hob _ _ _ hx (by decide))
          have hit5 : w5.heap[w.heap.size + 1 + 1 + 1 + 1]? = some (.stringIter s (pos + wd)) := (hg5.block _ hsz4 (fun e => by
            obtain ⟨cells', hc'⟩ := Kd.S_typed HV4.out.row _ (by rw [HVO.out]; exact e.symm)
            rw [HIT4.out] at hc'
            cases hc')).trans HIT4.out
          obtain ⟨A5, k5, hv5⟩ := Kd.S_slice hS5
          obtain ⟨n5, hn5⟩ : ∃ n5, n5 = (closeF es txt false ++ [newE r pos]).length := ⟨_, rfl⟩
          rw [← hn5] at hv5
          subst hv5
          clear hn5
          have c5 : w5.cell? ⟨w.heap.size, 0, none⟩ = some vo := by rw [Lib.cell_of_heap o5]; rfl
          have f5 : w5.frozen? ⟨w.heap.size, 0, none⟩ = false := Lib.frozen_of_heap o5 0
          have g5 : w5.frozen? ⟨w.heap.size + 1 + 1 + 1, 0, none⟩ = false := Lib.frozen_of_heap q5 0
          have hne5 : (⟨w.heap.size, 0, none⟩ : Addr) ≠ ⟨w.heap.size + 1 + 1 + 1, 0, none⟩ := fun e => by injection e with e; omega
          have d5 : (w5.setCell ⟨w.heap.size, 0, none⟩ (.slice A5 n5 k5)).cell? ⟨w.heap.size + 1 + 1 + 1, 0, none⟩ = some (.bool false) := by
            rw [World.cell?_setCell_other _ _ _ _ hne5, Lib.cell_of_heap q5]; rfl
          have HO5 := Lib.hid o5
          have HQ5 := Lib.hid q5
          have HT5 := Lib.hid t5
          have HX5 := Lib.hid x5
          have HIT5 := Lib.hid hit5
          have HS5 := Lib.hid hS5
          have HB5 := Lib.hid hb5
          clear o5 q5 t5 x5 hit5 hS5 hb5 hob hat5 hg5 ho4 hne5 c4 hf4 hq4 hfq4
          go_wp2_with fail
          have hq6 : (w5.setCell ⟨w.heap.size, 0, none⟩ (.slice A5 n5 k5)).heap[w.heap.size + 1 + 1 + 1]? = some (.cells #[.bool false] 4 (0, 0)) := by
            rw [Below.heap_setCell _ _ _ _ (by show _ ≠ w.heap.size; omega)]; exact HQ5.out
          have hit6 : ((w5.setCell ⟨w.heap.size, 0, none⟩ (.slice A5 n5 k5)).setCell ⟨w.heap.size + 1 + 1 + 1, 0, none⟩ (.bool true)).heap[w.heap.size + 1 + 1 + 1 + 1]? = some (.stringIter s (pos + wd)) := by
            rw [Below.heap_setCell _ _ _ _ (by show _ ≠ w.heap.size + 1 + 1 + 1; omega), Below.heap_setCell _ _ _ _ (by show _ ≠ w.heap.size; omega)]; exact HIT5.out
          go_roundw
          case rel =>
            refine ⟨pos + wd, f, (.slice A5 n5 k5), ⟨closeF es txt false ++ [newE r pos], [], true⟩, gt, ct, ?_, hit6, ?_, ?_, by omega, ?_, by simp, by simp, ?_, by simp⟩
            · obtain ⟨cx, hx⟩ := HX5.out.blk
              have n1 : gt ≠ w.heap.size := blk_ne hx HO5.out (by decide)
              have n2 : gt ≠ w.heap.size + 1 + 1 + 1 := blk_ne hx HQ5.out (by decide)
              refine ⟨?_, blk_set hq6 0 _, ?_, Nat.le_refl _, by omega, by omega, ?_, ?_⟩
              · rw [Below.heap_setCell _ _ _ _ (by show _ ≠ w.heap.size + 1 + 1 + 1; omega)]; exact blk_set HO5.out 0 _
              · rw [Below.heap_setCell _ _ _ _ (by show _ ≠ w.heap.size + 1 + 1 + 1; omega), Below.heap_setCell _ _ _ _ (by show _ ≠ w.heap.size; omega)]; exact HT5.out
              · exact Kd.S_set (Kd.S_set HS5.out HO5.out (by decide) 0 _) hq6 (by decide) 0 _
              · exact (HX5.out.keep (w' := w5.setCell ⟨w.heap.size, 0, none⟩ (.slice A5 n5 k5)) (Below.heap_setCell _ _ _ _ n1)).keep (Below.heap_setCell _ _ _ _ n2)
            · exact (HB5.out.setCell (p := ⟨w.heap.size, 0, none⟩) (Nat.le_refl _) _).setCell (p := ⟨w.heap.size + 1 + 1 + 1, 0, none⟩) (by show _ ≤ w.heap.size + 1 + 1 + 1; omega) _
            · rw [← stepP_new HBL.out (fun h => by first | exact HNN.out h | exact HNN.out ⟨trivial, h.2⟩)]; exact HF.out
            · show (closeF es txt false ++ [_]).length ≤ _
              rw [List.length_append, HL4.out]; show es.length + 1 ≤ _; omega
            · show (closeF es txt false ++ [_]).length ≤ _
              rw [List.length_append, HL4.out]; show es.length + 1 ≤ _; omega
          case measure =>
            simp only [World.iterPos, hit6, HIT.out]
            omega
        | true =>
          go_wp2_with fail
          refine (of_walk digs_ r _ (by decide)).mono ?_
          rintro e w3' ⟨rfl, hb3'⟩
          have hs3' := hb3'.size
          have hv3' := HV3.out.below hb3'
          have hit3' := (hb3'.block _ (show w.heap.size + 1 + 1 + 1 + 1 < w3.heap.size from by omega)).trans HIT3.out
          have hbw3' := HBW3.out.trans (hb3'.mono (by omega))
          have hg3' := GG_at HG3.out hb3'
          clear hb3' HV3 HIT3 HBW3 HG3 qc3
          have HV3 := Lib.hid hv3'
          have HIT3 := Lib.hid hit3'
          have HBW3 := Lib.hid hbw3'
          have HG3 := Lib.hid hg3'
          clear hv3' hit3' hbw3' hg3'
          by_cases hnn : ofB digs_ r = true
          · rw [hnn]
            have HNN : Hid (isNum r = true) := Lib.hid hnn
            clear hnn
            have c3 : w3'.cell? ⟨w.heap.size + 1 + 1, 0, none⟩ = some (.slice (some ⟨gt, 0, none⟩) txt.length ct) := by rw [Lib.cell_of_heap HV3.out.t]; rfl
            have f3 : w3'.frozen? ⟨w.heap.size + 1 + 1, 0, none⟩ = false := Lib.frozen_of_heap HV3.out.t 0
            obtain ⟨i0, hi, hz0, hz1, hz2⟩ := info_parts info21
            have hown3 : w3'.ownsRow w.heap.size 21 1 (.slice (some ⟨gt, 0, none⟩) txt.length ct) txt.length (nums .i32 txt) := HV3.out.text
            go_wp2_with (at_builtin; refine wpList_append_own _ rfl _ _ 48 rfl w.heap.size 21 i0 (.int .i32 0) 1 4 Tryd.underlying48 hi hz0 hz1 hz2 rfl (by decide) _ _ _ rfl (hown3.alloc _) ⟨w3'.heap.size, 0, none⟩ 1 1 [.int .i32 r] rfl rfl ?c1 ?c2 ?c3 ?c4 ?c5 ?_)
            case c1 =>
              intro j y hj
              match j, hj with
              | 0, hj => simp at hj; subst hj; exact (World.cell?_alloc_new _ _ _ _).trans (by simp)
              | j + 1, hj => simp at hj
            case c2 => intro y hy; simp at hy; subst hy; rfl
            case c3 => unfold maxLen; omega
            case c4 => omega
            case c5 => simp; omega
            intro v' w4 hown4 hgrow _
            obtain ⟨g4, k4, rfl⟩ : ∃ g4 k4, v' = .slice (some ⟨g4, 0, none⟩) (txt.length + 1) k4 := by
              rcases hown4.2 with ⟨_, h0⟩ | ⟨g, cap, cur, hv, _⟩
              · omega
              · exact ⟨_, _, hv⟩
            have hgx := HV3.out.text.blk
            have hob : ∀ (k : Nat) (o : Obj), w3'.heap[k]? = some o → k ≠ gt → w4.heap[k]? = some o := fun k o hc hk => (hgrow.block k (by have := blk_lt hc; simp; omega) (fun e => hk (by simpa [Value.ownBlock] using e))).trans ((Below.heap_alloc _ _ _ (blk_lt hc)).trans hc)
            have hbt : ∀ (k : Nat) (cells : Array Value) (t : TypeId), w3'.heap[k]? = some (.cells cells t (0, 0)) → t ≠ 21 → w4.heap[k]? = some (.cells cells t (0, 0)) := fun k cells t hc ht => hob k _ hc (fun e => by
              obtain ⟨cx, hx⟩ := hgx
              subst e
              rw [hc] at hx
              cases hx
              exact ht rfl)
            have o4 := hbt _ _ _ HV3.out.o (by decide)
            have q4 := hbt _ _ _ HV3.out.q (by decide)
            have t4 := hbt _ _ _ HV3.out.t (by decide)
            have hit4 : w4.heap[w.heap.size + 1 + 1 + 1 + 1]? = some (.stringIter s (pos + wd)) := hob _ _ HIT3.out (fun e => by
              obtain ⟨cx, hx⟩ := hgx
              rw [← e, HIT3.out] at hx
              cases hx)
            have hS4 : Kd.S k33 33 w4 w.heap.size (fun _ => True) vo es := by
              obtain ⟨cx, hx⟩ := hgx
              refine Kd.S_mono (Kd.S_step (Kd.S_types HV3.out.row hx (by decide)) (fun k hk hlt => ?_)) (fun _ _ => trivial)
              exact (hgrow.block k (by simp; omega) (fun e => hk.2 (by simpa [Value.ownBlock] using e))).trans (Below.heap_alloc _ _ _ hlt)
            have hb4 : Below w.heap.size w w4 := (HBW3.out.alloc (by omega) _).grown hgrow (by simp; omega) (fun k hk => (hown3.lt k hk).1)
            have c4 : w4.cell? ⟨w.heap.size + 1 + 1, 0, none⟩ = some (.slice (some ⟨gt, 0, none⟩) txt.length ct) := by rw [Lib.cell_of_heap t4]; rfl
            have f4 : w4.frozen? ⟨w.heap.size + 1 + 1, 0, none⟩ = false := Lib.frozen_of_heap t4 0
            have hx4 : TextRow w4 w.heap.size g4 k4 (txt ++ [r]) := by
              have e1 : (txt ++ [r]).length = txt.length + 1 := by simp
              unfold TextRow
              rw [e1]
              have e2 : nums .i32 (txt ++ [r]) = nums .i32 txt ++ [.int .i32 r] := by rw [nums_append]; rfl
              rw [e2]
              exact hown4
            have HO4 := Lib.hid o4
            have HQ4 := Lib.hid q4
            have HT4 := Lib.hid t4
            have HIT4 := Lib.hid hit4
            have HS4 := Lib.hid hS4
            have HB4 := Lib.hid hb4
            have HX4 := Lib.hid hx4
            clear o4 q4 t4 hit4 hS4 hb4 hx4 hob hbt hgx hgrow hown4 hown3 c3 f3 hi hz0 hz1 hz2
            go_wp2_with fail
            have hit5 : (w4.setCell ⟨w.heap.size + 1 + 1, 0, none⟩ (.slice (some ⟨g4, 0, none⟩) (txt.length + 1) k4)).heap[w.heap.size + 1 + 1 + 1 + 1]? = some (.stringIter s (pos + wd)) := by
              rw [Below.heap_setCell _ _ _ _ (by show _ ≠ w.heap.size + 1 + 1; omega)]; exact HIT4.out
            go_roundw
            case rel =>
              refine ⟨pos + wd, f, vo, ⟨es, txt ++ [r], true⟩, g4, k4, ?_, hit5, ?_, ?_, by omega, by show es.length ≤ _; omega, by show (txt ++ [r]).length ≤ _; rw [List.length_append]; show txt.length + 1 ≤ _; omega, fun _ => HOPN.out trivial, by show es.length ≤ _; omega, by show (txt ++ [r]).length ≤ _; rw [List.length_append]; show txt.length + 1 ≤ _; omega⟩
              · obtain ⟨cx, hx⟩ := HX4.out.blk
                have n1 : g4 ≠ w.heap.size + 1 + 1 := blk_ne hx HT4.out (by decide)
                refine ⟨?_, ?_, ?_, Nat.le_refl _, by omega, by omega, ?_, ?_⟩
                · rw [Below.heap_setCell _ _ _ _ (by show _ ≠ w.heap.size + 1 + 1; omega)]; exact HO4.out
                · rw [Below.heap_setCell _ _ _ _ (by show _ ≠ w.heap.size + 1 + 1; omega)]; exact HQ4.out
                · have := blk_set HT4.out 0 (.slice (some ⟨g4, 0, none⟩) (txt.length + 1) k4)
                  have e1 : (txt ++ [r]).length = txt.length + 1 := by simp
                  rw [e1]
                  exact this
                · exact Kd.S_set HS4.out HT4.out (by decide) 0 _
                · exact HX4.out.keep (Below.heap_setCell _ _ _ _ n1)
              · exact HB4.out.setCell (p := ⟨w.heap.size + 1 + 1, 0, none⟩) (by show _ ≤ w.heap.size + 1 + 1; omega) _
              · rw [← stepP_num HBL.out HNN.out]; exact HF.out
            case measure =>
              simp only [World.iterPos, hit5, HIT.out]
              omega
          · have hnn' : ofB digs_ r = false := by simpa using hnn
            rw [hnn']
            have HNN : Hid (¬ (true = true ∧ isNum r = true)) := Lib.hid (fun h => hnn h.2)
            clear hnn hnn'
            -- the entry before is shut, a new one begins
            go_wp2_with fail
            refine (close_any _ _ _ _ _ _ _ _ _ _ _ HV3.out (fun _ => HOPN.out trivial) (by omega) (by omega) HG3.out (by omega)).mono ?_
            rintro e w4 ⟨rfl, hv4, hb4, hk4⟩
            have hs4 := hb4.size
            have HBW4 := Lib.hid (HBW3.out.trans hb4)
            have hit4 : w4.heap[w.heap.size + 1 + 1 + 1 + 1]? = some (.stringIter s (pos + wd)) := (hk4.2 _ (by omega) (by
              rintro (h | h | h)
              · omega
              · omega
              · obtain ⟨cells, hc⟩ := Kd.S_typed HV3.out.row _ h.symm
                rw [HIT3.out] at hc
                cases hc)).trans HIT3.out
            have HIT4 := Lib.hid hit4
            have HV4 := Lib.hid hv4
            have c4 : w4.cell? ⟨w.heap.size, 0, none⟩ = some vo := by rw [Lib.cell_of_heap hv4.o]; rfl
            obtain ⟨A4, k4, hvo4⟩ := Kd.S_slice hv4.row
            rw [hvo4] at c4
            have HVO := Lib.hid hvo4
            have hlen4 : (closeF es txt true).length = es.length := closeF_length _ _ _
            have HL4 := Lib.hid hlen4
            clear hv4 hb4 hk4 hit4 hvo4 hlen4
            have hf4 : w4.frozen? ⟨w.heap.size, 0, none⟩ = false := Lib.frozen_of_heap HV4.out.o 0
            have hq4 : w4.cell? ⟨w.heap.size + 1 + 1 + 1, 0, none⟩ = some (.bool false) := by rw [Lib.cell_of_heap HV4.out.q]; rfl
            have hfq4 : w4.frozen? ⟨w.heap.size + 1 + 1 + 1, 0, none⟩ = false := Lib.frozen_of_heap HV4.out.q 0
            have hsz4 : w.heap.size + 1 + 1 + 1 + 1 < w4.heap.size := (Array.getElem?_eq_some_iff.1 HIT4.out).1
            go_wp2_with (at_builtin; refine Kd.S_append k33 (w0 := w) (W := w4) w.heap.size rfl _ _ 25 33 _ 48 rfl Tryd.underlying25 info33 rfl (by decide) (by decide) (.slice A4 (closeF es txt true).length k4) (closeF es txt true) (newE r pos) [.int .i32 r, .slice none 0 0, .bool false, .int .i64 (pos : Int)] (fun _ => True) (fun _ => False) rfl rfl (k33_mkM w4 w.heap.size _ (newE r pos) (Kd.R_nil _ _ _ _ _)) (fun _ h => h.elim) (fun _ _ => trivial) ?hS HBW4.out ?hb ?hl ?_)
            case hS => rw [← HVO.out]; exact Kd.S_mono HV4.out.row (fun _ _ => ⟨trivial, fun h => h⟩)
            case hb => omega
            case hl => have := HL4.out; omega
            intro v5 w5 hS5 hb5 hg5 hat5
            have ho4 := HV4.out.o
            have hob : ∀ (k : Nat) (cells : Array Value) (t : TypeId), w4.heap[k]? = some (.cells cells t (0, 0)) → t ≠ 33 → w5.heap[k]? = w4.heap[k]? := fun k cells t hc ht => hg5.block k (blk_lt hc) (fun e => by
              obtain ⟨cells', hc'⟩ := Kd.S_typed HV4.out.row k (by rw [HVO.out]; exact e.symm)
              rw [hc] at hc'
              cases hc'
              exact ht rfl)
            have o5 : w5.heap[w.heap.size]? = some (.cells #[vo] 25 (0, 0)) := (hob _ _ _ ho4 (by decide)).trans ho4
            have q5 : w5.heap[w.heap.size + 1 + 1 + 1]? = some (.cells #[.bool false] 4 (0, 0)) := (hob _ _ _ HV4.out.q (by decide)).trans HV4.out.q
            have t5 : w5.heap[w.heap.size + 1 + 1]? = some (.cells #[.slice (some ⟨gt, 0, none⟩) 0 ct] 48 (0, 0)) := (hob _ _ _ HV4.out.t (by decide)).trans HV4.out.t
            have x5 : TextRow w5 w.heap.size gt ct [] := by
              obtain ⟨cx, hx⟩ := HV4.out.text.blk
              exact HV4.out.text.keep (hob _ _ _ hx (by decide))
            have hit5 : w5.heap[w.heap.size + 1 + 1 + 1 + 1]? = some (.stringIter s (pos + wd)) := (hg5.block _ hsz4 (fun e => by
              obtain ⟨cells', hc'⟩ := Kd.S_typed HV4.out.row _ (by rw [HVO.out]; exact e.symm)
              rw [HIT4.out] at hc'
              cases hc')).trans HIT4.out
            obtain ⟨A5, k5, hv5⟩ := Kd.S_slice hS5
            obtain ⟨n5, hn5⟩ : ∃ n5, n5 = (closeF es txt true ++ [newE r pos]).length := ⟨_, rfl⟩
            rw [← hn5] at hv5
            subst hv5
            clear hn5
            have c5 : w5.cell? ⟨w.heap.size, 0, none⟩ = some vo := by rw [Lib.cell_of_heap o5]; rfl
            have f5 : w5.frozen? ⟨w.heap.size, 0, none⟩ = false := Lib.frozen_of_heap o5 0
            have g5 : w5.frozen? ⟨w.heap.size + 1 + 1 + 1, 0, none⟩ = false := Lib.frozen_of_heap q5 0
            have hne5 : (⟨w.heap.size, 0, none⟩ : Addr) ≠ ⟨w.heap.size + 1 + 1 + 1, 0, none⟩ := fun e => by injection e with e; omega
            have d5 : (w5.setCell ⟨w.heap.size, 0, none⟩ (.slice A5 n5 k5)).cell? ⟨w.heap.size + 1 + 1 + 1, 0, none⟩ = some (.bool false) := by
              rw [World.cell?_setCell_other _ _ _ _ hne5, Lib.cell_of_heap q5]; rfl
            have HO5 := Lib.hid o5
            have HQ5 := Lib.hid q5
            have HT5 := Lib.hid t5
            have HX5 := Lib.hid x5
            have HIT5 := Lib.hid hit5
            have HS5 := Lib.hid hS5
            have HB5 := Lib.hid hb5
            clear o5 q5 t5 x5 hit5 hS5 hb5 hob hat5 hg5 ho4 hne5 c4 hf4 hq4 hfq4
            go_wp2_with fail
            have hq6 : (w5.setCell ⟨w.heap.size, 0, none⟩ (.slice A5 n5 k5)).heap[w.heap.size + 1 + 1 + 1]? = some (.cells #[.bool false] 4 (0, 0)) := by
              rw [Below.heap_setCell _ _ _ _ (by show _ ≠ w.heap.size; omega)]; exact HQ5.out
            have hit6 : ((w5.setCell ⟨w.heap.size, 0, none⟩ (.slice A5 n5 k5)).setCell ⟨w.heap.size + 1 + 1 + 1, 0, none⟩ (.bool true)).heap[w.heap.size + 1 + 1 + 1 + 1]? = some (.stringIter s (pos + wd)) := by
              rw [Below.heap_setCell _ _ _ _ (by show _ ≠ w.heap.size + 1 + 1 + 1; omega), Below.heap_setCell _ _ _ _ (by show _ ≠ w.heap.size; omega)]; exact HIT5.out
            go_roundw
            case rel =>
              refine ⟨pos + wd, f, (.slice A5 n5 k5), ⟨closeF es txt true ++ [newE r pos], [], true⟩, gt, ct, ?_, hit6, ?_, ?_, by omega, ?_, by simp, by simp, ?_, by simp⟩
              · obtain ⟨cx, hx⟩ := HX5.out.blk
                have n1 : gt ≠ w.heap.size := blk_ne hx HO5.out (by decide)
                have n2 : gt ≠ w.heap.size + 1 + 1 + 1 := blk_ne hx HQ5.out (by decide)
                refine ⟨?_, blk_set hq6 0 _, ?_, Nat.le_refl _, by omega, by omega, ?_, ?_⟩
                · rw [Below.heap_setCell _ _ _ _ (by show _ ≠ w.heap.size + 1 + 1 + 1; omega)]; exact blk_set HO5.out 0 _
                · rw [Below.heap_setCell _ _ _ _ (by show _ ≠ w.heap.size + 1 + 1 + 1; omega), Below.heap_setCell _ _ _ _ (by show _ ≠ w.heap.size; omega)]; exact HT5.out
                · exact Kd.S_set (Kd.S_set HS5.out HO5.out (by decide) 0 _) hq6 (by decide) 0 _
                · exact (HX5.out.keep (w' := w5.setCell ⟨w.heap.size, 0, none⟩ (.slice A5 n5 k5)) (Below.heap_setCell _ _ _ _ n1)).keep (Below.heap_setCell _ _ _ _ n2)
              · exact (HB5.out.setCell (p := ⟨w.heap.size, 0, none⟩) (Nat.le_refl _) _).setCell (p := ⟨w.heap.size + 1 + 1 + 1, 0, none⟩) (by show _ ≤ w.heap.size + 1 + 1 + 1; omega) _
              · rw [← stepP_new HBL.out (fun h => by first | exact HNN.out h | exact HNN.out ⟨trivial, h.2⟩)]; exact HF.out
              · show (closeF es txt true ++ [_]).length ≤ _
                rw [List.length_append, HL4.out]; show es.length + 1 ≤ _; omega
              · show (closeF es txt true ++ [_]).length ≤ _
                rw [List.length_append, HL4.out]; show es.length + 1 ≤ _; omega
            case measure =>
              simp only [World.iterPos, hit6, HIT.out]
              omega
    · have hnx : ∀ ty, (Instr.next (.pointer (some ⟨w.heap.size + 1 + 1 + 1 + 1, 0, none⟩)) true ty).run Tryd.prog wr = _ := fun ty => Lib.run_next_end_at wr (w.heap.size + 1 + 1 + 1 + 1) s pos ty hit hp
      have HI := Lib.hid hI
      have hfin : parseF s = closeF st.es st.txt st.opn := by
        unfold parseF endP
        rw [← hI.fold, runesFrom_end _ _ _ hp]
        rfl
      have HFIN := Lib.hid hfin
      have hlen1 : st.es.length < 4294967296 ∧ st.txt.length < 1000000000 := by
        have h1 := hI.esS
        have h2 := hI.txS
        omega
      clear hI hit hfin
      go_wp2_with fail
      refine (close_any _ _ _ _ _ _ _ _ _ _ _ HI.out.vars HI.out.opn hlen1.1 hlen1.2 HGr.out (by omega)).mono ?_
      rintro e w4 ⟨rfl, hv4, hb4, hk4⟩
      obtain ⟨A4, k4, hvo4⟩ := Kd.S_slice hv4.row
      have c4 : w4.cell? ⟨w.heap.size, 0, none⟩ = some vo := by rw [Lib.cell_of_heap hv4.o]; rfl
      rw [hvo4] at c4
      have HV4 := Lib.hid hv4
      have HVO := Lib.hid hvo4
      have HB4 := Lib.hid hb4
      clear hv4 hvo4 hb4 hk4
      go_wp2_with fail
      go_ret
      exact ⟨_, rfl, by rw [HFIN.out, ← HVO.out]; exact HV4.out.row, HI.out.below.trans HB4.out⟩

end Go.Proofs.YtcldjdngfmakbaaDoor

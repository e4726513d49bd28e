/-
  glyph.Parse's closure: an entry is shut: its numbers are those of the text, if it has one that is no number's rune.
-/
import Derived.Test.YtcldjdngfmakbaaDoorG0
import Derived.Test.YtcldjdngfmakbaaDoorRunes
import Derived.Test.YtcldjdngfmakbaaDoorNumbers
import Derived.Test.YtcldjdngfmakbaaDoorRowSet
import Derived.Deep.RegionHeld3
import Derived.Laws.Cover4
import Derived.WalkSpells
namespace Go.Proofs.YtcldjdngfmakbaaDoor
open Go.RowKit Go.Proofs.YtcldjdngfmakbaaDoor.G Go.Proofs.YtcldjdngfmakbaaDoorW.PrintWords
set_option linter.unusedVariables false
set_option linter.unusedSimpArgs false

def digs_ : ByteArray := ⟨#[48, 49, 50, 51, 52, 53, 54, 55, 56, 57, 44]⟩
def isNum (r : Int) : Bool := ofB digs_ r

def setA (e : S33) (l : List Int) (b : Bool) : S33 := ⟨e.f0, l, b, e.f3⟩
/-- The last entry, shut. -/
def shutE (e : S33) (txt : List Int) : S33 :=
  if isNum e.f0 = true then setA e [] false else setA e (numsOf (runesBytes txt)).1 (numsOf (runesBytes txt)).2
def closeF (es : List S33) (txt : List Int) (opn : Bool) : List S33 :=
  if opn = true then es.set (es.length - 1) (shutE (es.getD (es.length - 1) z33) txt) else es

/-- The text's row. -/
def TextRow (w : World) (B : Nat) (gt ct : Nat) (txt : List Int) : Prop := w.ownsRow B 21 1 (.slice (some ⟨gt, 0, none⟩) txt.length ct) txt.length (nums .i32 txt)

theorem TextRow.cells {w : World} {B gt ct : Nat} {txt : List Int} (h : TextRow w B gt ct txt) : ∀ j, j < txt.length → w.cell? ((⟨gt, 0, none⟩ : Addr).add j) = some (.int .i32 (txt.getD j 0)) := by
  obtain ⟨A, c, hv, hr⟩ := own_reads h
  injection hv with ha _ _
  subst ha
  intro j hj
  obtain ⟨ad, e, hc⟩ := hr.at_ (j : Int) (by omega) (by omega)
  injection e with e
  subst e
  simpa [rd] using hc

theorem TextRow.cut {w : World} {B gt ct : Nat} {txt : List Int} (h : TextRow w B gt ct txt) : TextRow w B gt ct [] := by
  obtain ⟨h1, h2⟩ := h
  refine ⟨rfl, ?_⟩
  rcases h2 with ⟨hv, _⟩ | ⟨g, cap, cur, hv, hb, hg, hn, hm, hs, ht⟩
  · cases hv
  · injection hv with ha _ hc
    exact .inr ⟨g, cap, cur, by rw [ha, hc], hb, hg, Nat.zero_le _, hm, hs, by simp [nums]⟩
theorem TextRow.keep {w w' : World} {B gt ct : Nat} {txt : List Int} (h : TextRow w B gt ct txt) (hk : w'.heap[gt]? = w.heap[gt]?) : TextRow w' B gt ct txt := own_move h (fun k hk' => by simp [Value.ownBlock] at hk'; subst hk'; exact hk)
theorem TextRow.blk {w : World} {B gt ct : Nat} {txt : List Int} (h : TextRow w B gt ct txt) : ∃ cells, w.heap[gt]? = some (.cells cells 21 (0, 0)) := own_typed h gt rfl
theorem TextRow.capLe {w : World} {B gt ct : Nat} {txt : List Int} (h : TextRow w B gt ct txt) : txt.length ≤ ct := by
  rcases h.2 with ⟨hv, _⟩ | ⟨g, cap, cur, hv, hb, hg, hn, hm, hs, ht⟩
  · cases hv
  · injection hv with _ _ hc
    omega

/-- The text's cells read so. -/
def TX (gt : Nat) (txt : List Int) (W : World) : Prop := ∀ j, j < txt.length → W.cell? ((⟨gt, 0, none⟩ : Addr).add j) = some (.int .i32 (txt.getD j 0))
theorem TX_far {gt : Nat} {txt : List Int} {W : World} (h : TX gt txt W) {p : Addr} (hp : gt ≠ p.block) (u : Value) : TX gt txt (W.setCell p u) := fun j hj => by
  have hb : (W.setCell p u).heap[((⟨gt, 0, none⟩ : Addr).add j).block]? = W.heap[((⟨gt, 0, none⟩ : Addr).add j).block]? := Below.heap_setCell _ _ _ _ (by rw [add_plain]; exact hp)
  exact (World.cell?_of_block (w := W) hb).trans (h j hj)

/-- The three variables that the closure has, and what they lead to. -/
structure Vars (w : World) (B bo bq bt : Nat) (vo : Value) (es : List S33) (opn : Bool) (gt ct : Nat) (txt : List Int) : Prop where
  o : w.heap[bo]? = some (.cells #[vo] 25 (0, 0))
  q : w.heap[bq]? = some (.cells #[.bool opn] 4 (0, 0))
  t : w.heap[bt]? = some (.cells #[.slice (some ⟨gt, 0, none⟩) txt.length ct] 48 (0, 0))
  bo : B ≤ bo
  bq : B ≤ bq
  bt : B ≤ bt
  row : Kd.S k33 33 w B (fun _ => True) vo es
  text : TextRow w B gt ct txt

/-- What the closure leaves. -/
def ClosePost (w : World) (B bo bq bt : Nat) (vo : Value) (es : List S33) (opn : Bool) (gt ct : Nat) (txt : List Int) (e : Ending) (w' : World) : Prop :=
  e = .returned (.tuple #[]) ∧ Vars w' B bo bq bt vo (closeF es txt opn) false gt ct [] ∧ Below B w w' ∧ Kept w w' (fun k => k = bq ∨ k = bt ∨ some k = vo.ownBlock)

theorem Vars.shut {w : World} {B bo bq bt : Nat} {vo : Value} {es : List S33} {opn opn' : Bool} {gt ct : Nat} {txt : List Int} (h : Vars w B bo bq bt vo es opn gt ct txt) :
    Vars ((w.setCell ⟨bt, 0, none⟩ (.slice (some ⟨gt, 0, none⟩) 0 ct)).setCell ⟨bq, 0, none⟩ (.bool opn')) B bo bq bt vo es opn' gt ct [] := by
  obtain ⟨ho, hq, ht, b1, b2, b3, hr, hx⟩ := h
  have hbq : bo ≠ bq := blk_ne ho hq (by decide)
  have hbt : bo ≠ bt := blk_ne ho ht (by decide)
  have hqt : bq ≠ bt := blk_ne hq ht (by decide)
  refine ⟨?_, ?_, ?_, b1, b2, b3, ?_, ?_⟩
  · rw [Below.heap_setCell _ _ _ _ hbq, Below.heap_setCell _ _ _ _ hbt]; exact ho
  · have h1 : (w.setCell ⟨bt, 0, none⟩ (.slice (some ⟨gt, 0, none⟩) 0 ct)).heap[bq]? = some (.cells #[.bool opn] 4 (0, 0)) := by rw [Below.heap_setCell _ _ _ _ hqt]; exact hq
    exact blk_set h1 0 _
  · rw [Below.heap_setCell _ _ _ _ (Ne.symm hqt)]; exact blk_set ht 0 _
  · refine Kd.S_set (t := 4) (cells := #[.bool opn]) (Kd.S_set (t := 48) hr ht (by decide) 0 _) ?_ (by decide) 0 _
    rw [Below.heap_setCell _ _ _ _ hqt]; exact hq
  · obtain ⟨cells, hc⟩ := hx.blk
    have g1 : gt ≠ bt := blk_ne hc ht (by decide)
    have g2 : gt ≠ bq := blk_ne hc hq (by decide)
    exact hx.cut.keep (by rw [Below.heap_setCell _ _ _ _ g2, Below.heap_setCell _ _ _ _ g1])

theorem shut_below {w : World} {B bq bt : Nat} (u v : Value) (hq : B ≤ bq) (ht : B ≤ bt) : Below B w ((w.setCell ⟨bt, 0, none⟩ u).setCell ⟨bq, 0, none⟩ v) :=
  ((Below.refl B w).setCell (p := ⟨bt, 0, none⟩) ht u).setCell (p := ⟨bq, 0, none⟩) hq v
theorem shut_kept {w W : World} {bq bt : Nat} {S : Nat → Prop} (h : Kept w W (fun k => k = bq ∨ k = bt ∨ S k)) (u v : Value) : Kept w ((W.setCell ⟨bt, 0, none⟩ u).setCell ⟨bq, 0, none⟩ v) (fun k => k = bq ∨ k = bt ∨ S k) :=
  (h.setCell (p := ⟨bt, 0, none⟩) (.inl (.inr (.inl rfl))) u).setCell (p := ⟨bq, 0, none⟩) (.inl (.inl rfl)) v

set_option maxHeartbeats 4000000 in
set_option maxRecDepth 100000 in
/-- It is not open: the text is cut. -/
theorem close_no (w : World) (B bo bq bt : Nat) (A : Option Addr) (c : Nat) (es : List S33) (gt ct : Nat) (txt : List Int) (hv : Vars w B bo bq bt (.slice A es.length c) es false gt ct txt) :
    Calls Tryd.prog 19 #[.pointer (some ⟨bo, 0, none⟩), .pointer (some ⟨bq, 0, none⟩), .pointer (some ⟨bt, 0, none⟩)] w (ClosePost w B bo bq bt (.slice A es.length c) es false gt ct txt) := by
  have c0 : w.cell? ⟨bo, 0, none⟩ = some (.slice A es.length c) := by rw [Lib.cell_of_heap hv.o]; rfl
  have c1 : w.cell? ⟨bq, 0, none⟩ = some (.bool false) := by rw [Lib.cell_of_heap hv.q]; rfl
  have c2 : w.cell? ⟨bt, 0, none⟩ = some (.slice (some ⟨gt, 0, none⟩) txt.length ct) := by rw [Lib.cell_of_heap hv.t]; rfl
  have f1 : w.frozen? ⟨bq, 0, none⟩ = false := Lib.frozen_of_heap hv.q 0
  have f2 : w.frozen? ⟨bt, 0, none⟩ = false := Lib.frozen_of_heap hv.t 0
  have hqt : bq ≠ bt := blk_ne hv.q hv.t (by decide)
  have hcl := hv.text.capLe
  have c3 : (w.setCell ⟨bt, 0, none⟩ (.slice (some ⟨gt, 0, none⟩) 0 ct)).cell? ⟨bq, 0, none⟩ = some (.bool false) := by
    have hne : (⟨bt, 0, none⟩ : Addr) ≠ ⟨bq, 0, none⟩ := fun e => by injection e with e; exact hqt e.symm
    rw [World.cell?_setCell_other _ _ _ _ hne]; exact c1
  have HV := Lib.hid hv
  have HQ := Lib.hid hqt
  clear hv hqt
  go_enter Tryd.func19, Tryd.ntmps19
  go_wp2_with fail
  go_end0
  exact ⟨rfl, HV.out.shut, shut_below _ _ HV.out.bq HV.out.bt, shut_kept (Kept.refl _ _) _ _⟩

/-- Where the last entry's cells lie. -/
theorem Vars.last {w : World} {B bo bq bt : Nat} {vo : Value} {es : List S33} {opn : Bool} {gt ct m : Nat} {txt : List Int} (h : Vars w B bo bq bt vo es opn gt ct txt) (hm : es.length = m + 1) :
    ∃ g cap, vo = .slice (some ⟨g, 0, none⟩) (m + 1) cap ∧ B ≤ g ∧ (∃ cells, w.heap[g]? = some (.cells cells 33 (0, 0))) ∧ ∃ va, w.cell? ⟨g, m * 4, none⟩ = some (.int .i32 (es.getD m z33).f0) ∧ w.cell? ⟨g, m * 4 + 1, none⟩ = some va ∧ w.cell? ⟨g, m * 4 + 2, none⟩ = some (.bool (es.getD m z33).f2) := by
  obtain ⟨g, cap, hv, hb, hlt, hc⟩ := Kd.S_form h.row (by omega)
  rw [hm] at hv
  refine ⟨g, cap, hv, hb, hc, ?_⟩
  have hr := h.row
  rw [hv] at hr
  obtain ⟨cs, hcl, hM, hat⟩ := Kd.S_get hr z33 (m : Int) (by omega) (by omega)
  obtain ⟨v1, hcs, _⟩ := k33_openM hM
  subst hcs
  have a0 := hat 0 _ rfl
  have a1 := hat 1 _ rfl
  have a2 := hat 2 _ rfl
  rw [add_plain] at a0 a1 a2
  have e4 : k33.sz = 4 := rfl
  simp only [Nat.zero_add, Int.toNat_natCast, e4, Nat.add_zero] at a0 a1 a2
  exact ⟨v1, a0, a1, a2⟩

/-- Two fields of an entry are stored. -/
theorem Vars.set2 {w : World} {B bo bq bt : Nat} {es : List S33} {opn : Bool} {g n cap gt ct m : Nat} {txt : List Int} (h : Vars w B bo bq bt (.slice (some ⟨g, 0, none⟩) n cap) es opn gt ct txt) (hm : m < es.length) (okp : Nat → Prop) (va : Value) (args : List Int) (b : Bool)
    (hS : Kd.S k33 33 w B (fun k => True ∧ ¬ okp k) (.slice (some ⟨g, 0, none⟩) n cap) es) (hR : (Kd.int .u64).R 51 w B okp va args) (hg : ∀ k, okp k → k ≠ g) :
    Vars ((w.setCell ⟨g, m * 4 + 1, none⟩ va).setCell ⟨g, m * 4 + 2, none⟩ (.bool b)) B bo bq bt (.slice (some ⟨g, 0, none⟩) n cap) (es.set m (setA (es.getD m z33) args b)) opn gt ct txt := by
  obtain ⟨cells, hgc⟩ := Kd.S_typed h.row g rfl
  have ho := h.o
  have hq := h.q
  have ht := h.t
  obtain ⟨cx, hx⟩ := h.text.blk
  have n1 : bo ≠ g := blk_ne ho hgc (by decide)
  have n2 : bq ≠ g := blk_ne hq hgc (by decide)
  have n3 : bt ≠ g := blk_ne ht hgc (by decide)
  have n4 : gt ≠ g := blk_ne hx hgc (by decide)
  refine ⟨?_, ?_, ?_, h.bo, h.bq, h.bt, ?_, ?_⟩
  · rw [Below.heap_setCell _ _ _ _ n1, Below.heap_setCell _ _ _ _ n1]; exact ho
  · rw [Below.heap_setCell _ _ _ _ n2, Below.heap_setCell _ _ _ _ n2]; exact hq
  · rw [Below.heap_setCell _ _ _ _ n3, Below.heap_setCell _ _ _ _ n3]; exact ht
  · refine Kd.S_set2 (d := k33) (okp := okp) hS m 1 2 hm (by decide) (by decide) va (.bool b) _ (fun k hk => ⟨trivial, hg k hk⟩) ?_
    intro x c hx' hK
    obtain ⟨A1, c1, rfl, _, _⟩ := k33_open hK
    have hxe : es.getD m z33 = x := by simp [List.getD, hx']
    rw [hxe]
    have hR' : (Kd.int .u64).R 51 ((w.setCell ⟨g, m * 4 + 1, none⟩ va).setCell ⟨g, m * 4 + 2, none⟩ (.bool b)) B okp va args :=
      Kd.R_far (Kd.R_far hR (fun k hk => hg k hk) _) (fun k hk => hg k hk) _
    exact k33_mkM _ B okp (setA x args b) hR'
  · exact (h.text.keep (w' := w.setCell ⟨g, m * 4 + 1, none⟩ va) (Below.heap_setCell _ _ _ _ n4)).keep (Below.heap_setCell _ _ _ _ n4)

theorem Vars.below {w w1 : World} {B bo bq bt : Nat} {vo : Value} {es : List S33} {opn : Bool} {gt ct : Nat} {txt : List Int} (h : Vars w B bo bq bt vo es opn gt ct txt) (hb : Below w.heap.size w w1) : Vars w1 B bo bq bt vo es opn gt ct txt := by
  obtain ⟨cx, hx⟩ := h.text.blk
  exact ⟨(hb.block _ (blk_lt h.o)).trans h.o, (hb.block _ (blk_lt h.q)).trans h.q, (hb.block _ (blk_lt h.t)).trans h.t, h.bo, h.bq, h.bt, Kd.S_below h.row hb, h.text.keep (hb.block _ (blk_lt hx))⟩

set_option maxHeartbeats 16000000 in
set_option maxRecDepth 100000 in
theorem close_yes (w : World) (B bo bq bt : Nat) (vo : Value) (es : List S33) (gt ct m : Nat) (txt : List Int) (hv : Vars w B bo bq bt vo es true gt ct txt) (hm : es.length = m + 1) (hml : m < 4294967296) (htx : txt.length < 1000000000) (hG : GG w) (hBw : B ≤ w.heap.size) :
    Calls Tryd.prog 19 #[.pointer (some ⟨bo, 0, none⟩), .pointer (some ⟨bq, 0, none⟩), .pointer (some ⟨bt, 0, none⟩)] w (ClosePost w B bo bq bt vo es true gt ct txt) := by
  obtain ⟨g, cap, rfl, hBg, ⟨cells, hgc⟩, va, e0, e1, e2⟩ := hv.last hm
  obtain ⟨op, hop⟩ : ∃ op, op = (es.getD m z33).f0 := ⟨_, rfl⟩
  obtain ⟨ok0, hok⟩ : ∃ ok0, ok0 = (es.getD m z33).f2 := ⟨_, rfl⟩
  rw [← hop] at e0
  rw [← hok] at e2
  have c0 : w.drew.cell? ⟨bo, 0, none⟩ = some (.slice (some ⟨g, 0, none⟩) (m + 1) cap) := by
    have : w.drew.heap[bo]? = some (.cells #[.slice (some ⟨g, 0, none⟩) (m + 1) cap] 25 (0, 0)) := hv.o
    rw [Lib.cell_of_heap this]; rfl
  have c0' : w.cell? ⟨bo, 0, none⟩ = some (.slice (some ⟨g, 0, none⟩) (m + 1) cap) := by rw [Lib.cell_of_heap hv.o]; rfl
  have c1 : w.cell? ⟨bq, 0, none⟩ = some (.bool true) := by rw [Lib.cell_of_heap hv.q]; rfl
  have c2 : w.drew.cell? ⟨bt, 0, none⟩ = some (.slice (some ⟨gt, 0, none⟩) txt.length ct) := by
    have : w.drew.heap[bt]? = some (.cells #[.slice (some ⟨gt, 0, none⟩) txt.length ct] 48 (0, 0)) := hv.t
    rw [Lib.cell_of_heap this]; rfl
  have hcv : ∀ W : World, TX gt txt W → (convert 48 9 (.slice (some ⟨gt, 0, none⟩) txt.length ct)).run Tryd.prog W = .ok (.string (runesBytes txt)) W := fun W hc => by
    have := run_convert_runes W 48 9 21 ⟨gt, 0, none⟩ txt.length ct txt (Nat.le_refl _) Tryd.underlying48 Tryd.underlying21 Tryd.underlying9 hc
    rw [List.take_length] at this
    exact this
  have hT0 : TX gt txt w.drew := fun j hj => hv.text.cells j hj
  have HT0 := Lib.hid hT0
  have hb0 : (0 : Int) ≤ (m : Int) := Int.natCast_nonneg _
  have hb1 : (m : Int) < (m : Int) + 1 := by omega
  have hgo : g ≠ bo := blk_ne hgc hv.o (by decide)
  have hgx : gt ≠ g := by
    obtain ⟨cells', hc'⟩ := hv.text.blk
    exact blk_ne hc' hgc (by decide)
  have hgt : g ≠ bt := blk_ne hgc hv.t (by decide)
  have HSZ : Hid ((runesBytes txt).size < 4294967281) := Lib.hid (by have := runesBytes_size_le txt; omega)
  have HK : Hid (∀ w1 : World, Below w.drew.heap.size w.drew w1 → w1.cell? ⟨bo, 0, none⟩ = some (.slice (some ⟨g, 0, none⟩) (m + 1) cap) ∧ w1.cell? ⟨bt, 0, none⟩ = some (.slice (some ⟨gt, 0, none⟩) txt.length ct) ∧
      w1.cell? ⟨g, m * 4 + 1, none⟩ = some va ∧ w1.cell? ⟨g, m * 4 + 2, none⟩ = some (.bool ok0) ∧ w1.frozen? ⟨g, m * 4 + 1, none⟩ = false ∧ w1.frozen? ⟨g, m * 4 + 2, none⟩ = false ∧ TX gt txt w1) := Lib.hid (fun w1 hb => by
    have hgc1 : w1.heap[g]? = some (.cells cells 33 (0, 0)) := (hb.block g (blk_lt hgc)).trans hgc
    have hce : ∀ (a : Addr) v, w.cell? a = some v → w1.cell? a = some v := fun a v hc => (hb.cell (World.block_lt_of_cell? w a hc)).trans hc
    exact ⟨hce _ _ c0', hce _ _ c2, hce _ _ e1, hce _ _ e2, Lib.frozen_of_heap hgc1 _, Lib.frozen_of_heap hgc1 _, fun j hj => hce _ _ (hT0 j hj)⟩)
  have HV := Lib.hid hv
  have HM := Lib.hid hm
  have HOP := Lib.hid hop
  have HOK := Lib.hid hok
  have HCV := Lib.hid hcv
  have HG := Lib.hid hG
  clear hv hm hop hok hcv hT0 hG
  go_enter Tryd.func19, Tryd.ntmps19
  go_wp2_with fail
  have hcv := HCV.out
  have hT0 := HT0.out
  go_region_held3 (fun w' => w'.cell? ⟨bo, 0, none⟩ = some (.slice (some ⟨g, 0, none⟩) (m + 1) cap) ∧ w'.cell? ⟨bt, 0, none⟩ = some (.slice (some ⟨gt, 0, none⟩) txt.length ct) ∧ TX gt txt w')
    (first | exact ⟨c0, c2, hT0⟩ | exact ⟨d0, d2, d7⟩ | exact ⟨by go_keep, by go_keep, TX_far d7 hgx _⟩ | exact ⟨by go_keep, by go_keep, TX_far (TX_far d7 hgx _) hgx _⟩)
    ((first
      | (go_at_call 20; refine (numbers_walk _ _ ?_ ?_).mono ?_; exact HSZ.out; exact GG_at HG.out ((Below.refl _ _).drew); rintro e w1 ⟨v1, rfl, ho1, hbw⟩; obtain ⟨d0, d2, d3, d4, d5, d6, d7⟩ := HK.out w1 hbw; obtain ⟨A1, k1, rfl⟩ := own_slice ho1)))
  clear hcv hT0
  obtain ⟨nl, hnl⟩ : ∃ nl, nl = (numsOf (runesBytes txt)).1 := ⟨_, rfl⟩
  obtain ⟨nb, hnb⟩ : ∃ nb, nb = (numsOf (runesBytes txt)).2 := ⟨_, rfl⟩
  rw [← hnl] at ho1 ⊢
  rw [← hnb]
  have HN1 := Lib.hid hnl
  have HN2 := Lib.hid hnb
  clear hnl hnb
  have hb1' : Below w.heap.size w w1 := ⟨hbw.os, hbw.tape, hbw.output, hbw.size, hbw.block⟩
  have hS1 : Kd.S k33 33 w1 B (fun k => True ∧ ¬ w.heap.size ≤ k) (.slice (some ⟨g, 0, none⟩) (m + 1) cap) es :=
    Kd.S_mono (Kd.S_below (Kd.S_bound HV.out.row) hb1') (fun k hk => ⟨trivial, by have := hk.2.2.1; omega⟩)
  have ho1' : w1.ownsRow w.heap.size 51 1 (.slice A1 nl.length k1) nl.length (encs (Value.int .u64) nl) := ho1
  have hR1 : (Kd.int .u64).R 51 w1 B (fun k => w.heap.size ≤ k) (.slice A1 nl.length k1) nl := Kd.R_of_own (own_weaken ho1' hBw) (fun k hk => own_base ho1' k hk)
  have hv2 := (HV.out.below hb1').set2 (m := m) (by have := HM.out; omega) (fun k => w.heap.size ≤ k) (.slice A1 nl.length k1) nl nb hS1 hR1 (fun k hk => by have := blk_lt hgc; omega)
  have hbel2 : Below B w ((w1.setCell ⟨g, m * 4 + 1, none⟩ (.slice A1 nl.length k1)).setCell ⟨g, m * 4 + 2, none⟩ (.bool nb)) :=
    ((hb1'.mono hBw).setCell (p := ⟨g, m * 4 + 1, none⟩) hBg _).setCell (p := ⟨g, m * 4 + 2, none⟩) hBg _
  have hkp2 : Kept w ((w1.setCell ⟨g, m * 4 + 1, none⟩ (.slice A1 nl.length k1)).setCell ⟨g, m * 4 + 2, none⟩ (.bool nb)) (fun k => k = bq ∨ k = bt ∨ some k = (Value.slice (some ⟨g, 0, none⟩) (m + 1) cap).ownBlock) :=
    ((Kept.of_below hb1' _).setCell (p := ⟨g, m * 4 + 1, none⟩) (.inl (.inr (.inr rfl))) _).setCell (p := ⟨g, m * 4 + 2, none⟩) (.inl (.inr (.inr rfl))) _
  clear d0 d2 d3 d4 d5 d6 d7 hS1 ho1 ho1' hR1
  rename_i hheld_
  clear hheld_
  obtain ⟨w2, hw2⟩ : ∃ w2, w2 = (w1.setCell ⟨g, m * 4 + 1, none⟩ (.slice A1 nl.length k1)).setCell ⟨g, m * 4 + 2, none⟩ (.bool nb) := ⟨_, rfl⟩
  rw [← hw2] at hv2 hbel2 hkp2 ⊢
  have hs12 : w.heap.size ≤ w2.heap.size := hbel2.size
  clear hw2 hbw hb1' e0 e1 e2 c0 c0' c1 c2 HK HCV HT0
  have hm2 : (es.set m (setA (es.getD m z33) nl nb)).length = m + 1 := by rw [List.length_set]; exact HM.out
  have hgd : (es.set m (setA (es.getD m z33) nl nb)).getD m z33 = setA (es.getD m z33) nl nb := by simp [List.getD, HM.out]
  obtain ⟨g', cap', hvo', _, ⟨cells2, hgc2⟩, va2, a0, a1, a2⟩ := hv2.last hm2
  injection hvo' with hx1 _ hx2
  injection hx1 with hx1
  injection hx1 with hx1
  subst hx1 hx2
  rw [hgd] at a0 a2
  have a0' : w2.cell? ⟨g, m * 4, none⟩ = some (.int .i32 op) := by rw [a0, HOP.out]; rfl
  have b0 : w2.cell? ⟨bo, 0, none⟩ = some (.slice (some ⟨g, 0, none⟩) (m + 1) cap) := by rw [Lib.cell_of_heap hv2.o]; rfl
  have HGD := Lib.hid hgd
  have HM2 := Lib.hid hm2
  have HV2 := Lib.hid hv2
  have HBEL := Lib.hid hbel2
  have HKP := Lib.hid hkp2
  clear a0 hgd hm2 hv2 hbel2 hkp2
  by_cases hnum : isNum op = true
  · have HNUM := Lib.hid hnum
    clear hnum
    go_wp2_with fail
    refine (of_walk digs_ _ _ (by decide)).mono ?_
    rintro e w3 ⟨rfl, hb3⟩
    have hv3 := HV2.out.below hb3
    have HB3 := Lib.hid hb3
    have hs23 := hb3.size
    obtain ⟨g', cap', hvo', _, ⟨cells3, hgc3⟩, va3, _, d1, d2⟩ := hv3.last HM2.out
    injection hvo' with hx1 _ hx2
    injection hx1 with hx1
    injection hx1 with hx1
    subst hx1 hx2
    rw [show ofB digs_ op = true from HNUM.out]
    have b3 : w3.drew.cell? ⟨bo, 0, none⟩ = some (.slice (some ⟨g, 0, none⟩) (m + 1) cap) := by
      have : w3.drew.heap[bo]? = some (.cells #[.slice (some ⟨g, 0, none⟩) (m + 1) cap] 25 (0, 0)) := hv3.o
      rw [Lib.cell_of_heap this]; rfl
    obtain ⟨ok3, hok3⟩ : ∃ ok3, ok3 = ((es.set m (setA (es.getD m z33) nl nb)).getD m z33).f2 := ⟨_, rfl⟩
    rw [← hok3] at d2
    have d1' : w3.drew.cell? ⟨g, m * 4 + 1, none⟩ = some va3 := d1
    have d2' : w3.drew.cell? ⟨g, m * 4 + 2, none⟩ = some (.bool ok3) := d2
    have f3 : w3.drew.frozen? ⟨g, m * 4 + 1, none⟩ = false := Lib.frozen_of_heap hgc3 _
    have f4 : w3.drew.frozen? ⟨g, m * 4 + 2, none⟩ = false := Lib.frozen_of_heap hgc3 _
    have hneo : ∀ o1 : Nat, (⟨g, o1, none⟩ : Addr) ≠ ⟨bo, 0, none⟩ := fun o1 e => by injection e with e; exact hgo e
    have HF1 : Hid (∀ (o1 : Nat) (v : Value), (w3.setCell ⟨g, o1, none⟩ v).drew.cell? ⟨bo, 0, none⟩ = some (.slice (some ⟨g, 0, none⟩) (m + 1) cap)) := Lib.hid (fun o1 v => by
      show (w3.setCell ⟨g, o1, none⟩ v).cell? ⟨bo, 0, none⟩ = _
      rw [World.cell?_setCell_other _ _ _ _ (hneo o1)]; exact b3)
    have HF2 : Hid (∀ (o1 : Nat) (v : Value) (o2 : Nat) (v2 : Value), ((w3.setCell ⟨g, o1, none⟩ v).setCell ⟨g, o2, none⟩ v2).drew.cell? ⟨bo, 0, none⟩ = some (.slice (some ⟨g, 0, none⟩) (m + 1) cap)) := Lib.hid (fun o1 v o2 v2 => by
      show ((w3.setCell ⟨g, o1, none⟩ v).setCell ⟨g, o2, none⟩ v2).cell? ⟨bo, 0, none⟩ = _
      rw [World.cell?_setCell_other _ _ _ _ (hneo o2), World.cell?_setCell_other _ _ _ _ (hneo o1)]; exact b3)
    have hne12 : (⟨g, m * 4 + 1, none⟩ : Addr) ≠ ⟨g, m * 4 + 2, none⟩ := fun e => by injection e with e1 e2; omega
    have d5 : (w3.setCell ⟨g, m * 4 + 1, none⟩ (.slice none 0 0)).cell? ⟨g, m * 4 + 2, none⟩ = some (.bool ok3) := by
      rw [World.cell?_setCell_other _ _ _ _ hne12]; exact d2
    have d5' : (w3.setCell ⟨g, m * 4 + 1, none⟩ (.slice none 0 0)).drew.cell? ⟨g, m * 4 + 2, none⟩ = some (.bool ok3) := d5
    have f5 : (w3.setCell ⟨g, m * 4 + 1, none⟩ (.slice none 0 0)).frozen? ⟨g, m * 4 + 2, none⟩ = false := by rw [World.frozen?_setCell]; exact f4
    have f5' : (w3.setCell ⟨g, m * 4 + 1, none⟩ (.slice none 0 0)).drew.frozen? ⟨g, m * 4 + 2, none⟩ = false := f5
    have f6 : w3.frozen? ⟨g, m * 4 + 2, none⟩ = false := f4
    have HV3 := Lib.hid hv3
    clear hneo hne12
    clear hv3 hok3 hb3 a0' a1 a2 b0 d1 d2
    go_wp2_with fail
    go_region_held3 (fun w' => w'.cell? ⟨bo, 0, none⟩ = some (.slice (some ⟨g, 0, none⟩) (m + 1) cap))
      (first | exact b3 | exact HF1.out _ _ | exact HF2.out _ _ _ _)
      (fail)
    have hm3 : m < (es.set m (setA (es.getD m z33) nl nb)).length := by have := HM2.out; omega
    have hv4 := HV3.out.set2 (m := m) hm3 (fun _ => False) (.slice none 0 0) [] false (Kd.S_mono HV3.out.row (fun _ _ => ⟨trivial, fun h => h⟩)) (Kd.R_nil _ _ _ _ _) (fun _ h => h.elim)
    have hbel4 : Below B w ((w3.setCell ⟨g, m * 4 + 1, none⟩ (.slice none 0 0)).setCell ⟨g, m * 4 + 2, none⟩ (.bool false)) :=
      ((HBEL.out.trans (HB3.out.mono (by omega))).setCell (p := ⟨g, m * 4 + 1, none⟩) hBg _).setCell (p := ⟨g, m * 4 + 2, none⟩) hBg _
    have hkp4 : Kept w ((w3.setCell ⟨g, m * 4 + 1, none⟩ (.slice none 0 0)).setCell ⟨g, m * 4 + 2, none⟩ (.bool false)) (fun k => k = bq ∨ k = bt ∨ some k = (Value.slice (some ⟨g, 0, none⟩) (m + 1) cap).ownBlock) :=
      ((HKP.out.below HB3.out).setCell (p := ⟨g, m * 4 + 1, none⟩) (.inl (.inr (.inr rfl))) _).setCell (p := ⟨g, m * 4 + 2, none⟩) (.inl (.inr (.inr rfl))) _
    obtain ⟨w4, hw4⟩ : ∃ w4, w4 = (w3.setCell ⟨g, m * 4 + 1, none⟩ (.slice none 0 0)).setCell ⟨g, m * 4 + 2, none⟩ (.bool false) := ⟨_, rfl⟩
    rw [← hw4] at hv4 hbel4 hkp4 ⊢
    clear hw4 b3 d1' d2' d5 d5' f3 f4 f5 f5' f6 hm3
    rename_i hheld_
    clear hheld_
    have hset : (es.set m (setA (es.getD m z33) nl nb)).set m (setA ((es.set m (setA (es.getD m z33) nl nb)).getD m z33) [] false) = es.set m (setA (es.getD m z33) [] false) := by
      rw [HGD.out, List.set_set]; rfl
    rw [hset] at hv4
    have hv5 : Vars w4.drew B bo bq bt (.slice (some ⟨g, 0, none⟩) (m + 1) cap) (es.set m (setA (es.getD m z33) [] false)) true gt ct txt := ⟨hv4.o, hv4.q, hv4.t, hv4.bo, hv4.bq, hv4.bt, Kd.S_drew hv4.row, hv4.text⟩
    have hbel5 : Below B w w4.drew := hbel4.drew
    have hkp5 := hkp4.drew
    obtain ⟨w5, hw5⟩ : ∃ w5, w5 = w4.drew := ⟨_, rfl⟩
    rw [← hw5] at hv5 hbel5 hkp5 ⊢
    clear hw5 hbel4 hkp4
    have c1 : w5.cell? ⟨bq, 0, none⟩ = some (.bool true) := by rw [Lib.cell_of_heap hv5.q]; rfl
    have c2 : w5.cell? ⟨bt, 0, none⟩ = some (.slice (some ⟨gt, 0, none⟩) txt.length ct) := by rw [Lib.cell_of_heap hv5.t]; rfl
    have f1 : w5.frozen? ⟨bq, 0, none⟩ = false := Lib.frozen_of_heap hv5.q 0
    have f2 : w5.frozen? ⟨bt, 0, none⟩ = false := Lib.frozen_of_heap hv5.t 0
    have hqt : bq ≠ bt := blk_ne hv5.q hv5.t (by decide)
    have hcl := hv5.text.capLe
    have hne : (⟨bt, 0, none⟩ : Addr) ≠ ⟨bq, 0, none⟩ := fun e => by injection e with e; exact hqt e.symm
    have c3 : (w5.setCell ⟨bt, 0, none⟩ (.slice (some ⟨gt, 0, none⟩) 0 ct)).cell? ⟨bq, 0, none⟩ = some (.bool true) := by
      rw [World.cell?_setCell_other _ _ _ _ hne]; exact c1
    have HV5 := Lib.hid hv5
    clear hv4 hv5 hqt hset hne
    go_wp2_with fail
    go_end0
    refine ⟨rfl, ?_, ?_, ?_⟩
    · have e1 : closeF es txt true = es.set m (setA (es.getD m z33) [] false) := by
        unfold closeF shutE
        rw [if_pos rfl, HM.out, Nat.add_sub_cancel, ← HOP.out, HNUM.out, if_pos rfl]
      rw [e1]
      exact HV5.out.shut
    · exact hbel5.trans (shut_below _ _ HV5.out.bq HV5.out.bt)
    · exact shut_kept hkp5 _ _
  · have hnum' : isNum op = false := by simpa using hnum
    have HNUM := Lib.hid hnum'
    clear hnum hnum'
    go_wp2_with fail
    refine (of_walk digs_ _ _ (by decide)).mono ?_
    rintro e w3 ⟨rfl, hb3⟩
    have hv3 := HV2.out.below hb3
    rw [show ofB digs_ op = false from HNUM.out]
    have c1 : w3.cell? ⟨bq, 0, none⟩ = some (.bool true) := by rw [Lib.cell_of_heap hv3.q]; rfl
    have c2 : w3.cell? ⟨bt, 0, none⟩ = some (.slice (some ⟨gt, 0, none⟩) txt.length ct) := by rw [Lib.cell_of_heap hv3.t]; rfl
    have f1 : w3.frozen? ⟨bq, 0, none⟩ = false := Lib.frozen_of_heap hv3.q 0
    have f2 : w3.frozen? ⟨bt, 0, none⟩ = false := Lib.frozen_of_heap hv3.t 0
    have hqt : bq ≠ bt := blk_ne hv3.q hv3.t (by decide)
    have hcl := hv3.text.capLe
    have c3 : (w3.setCell ⟨bt, 0, none⟩ (.slice (some ⟨gt, 0, none⟩) 0 ct)).cell? ⟨bq, 0, none⟩ = some (.bool true) := by
      have hne : (⟨bt, 0, none⟩ : Addr) ≠ ⟨bq, 0, none⟩ := fun e => by injection e with e; exact hqt e.symm
      rw [World.cell?_setCell_other _ _ _ _ hne]; exact c1
    have HV3 := Lib.hid hv3
    have HB3 := Lib.hid hb3
    clear hv3 hqt hb3 a0' a1 a2 b0
    go_wp2_with fail
    go_end0
    refine ⟨rfl, ?_, ?_, ?_⟩
    · have e1 : closeF es txt true = es.set m (setA (es.getD m z33) nl nb) := by
        unfold closeF shutE
        rw [if_pos rfl, HM.out, Nat.add_sub_cancel, ← HOP.out, HNUM.out, if_neg (by decide), HN1.out, HN2.out]
      rw [e1]
      exact HV3.out.shut
    · exact (HBEL.out.trans (HB3.out.mono (by omega))).trans (shut_below _ _ HV3.out.bq HV3.out.bt)
    · exact shut_kept (HKP.out.below HB3.out) _ _
end Go.Proofs.YtcldjdngfmakbaaDoor

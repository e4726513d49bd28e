/-
  Parts of the proof of runnerSkips_holds: Entry, Close, Parse, GlyphParse, ParseCut.
-/
import Derived.Test.YtgdoeoackhfikaaGreatDoorQA6
import Derived.Test.YtgdoeoackhfikaaGreatDoorQA7
import Derived.Test.YtgdoeoackhfikaaGreatDoorQA1
import Derived.Deep.RegionHeld3
import Derived.Laws.Cover4
import Derived.WalkSpells
import Derived.Lib.MapLaws
import Derived.Lib.TrimAscii
namespace Go.Proofs.YtgdoeoackhfikaaGreatDoor.G
open Go.RowKit Go.Proofs.YtgdoeoackhfikaaGreatDoorW.PrintWords Go.Proofs.YtgdoeoackhfikaaGreatDoorW.PrintLast Go.Proofs.YtgdoeoackhfikaaGreatDoorW.PrintMore
attribute [local go_sem] max2_int min2_int max_two min_two max_three min_three max_four min_four
set_option linter.unusedVariables false
set_option linter.unusedSimpArgs false
theorem info21 : (Tryz.prog.info? 21).map (fun i => (i.zero, i.size, i.bytes)) = some (some (.int .i32 0), 1, 4) := by kernel_rfl
theorem info39 : (Tryz.prog.info? 39).map (fun i => (i.zero, i.size, i.bytes)) = some (some (.agg #[(.int .i32 0), (.slice none 0 0), (.bool false), (.int .i64 0)]), 4, 48) := by kernel_rfl

structure S33 where
 f0 : Int
 f1 : (List Int)
 f2 : Bool
 f3 : Int
def z33 : S33 := ⟨(0 : Int), ([] : List Int), false, (0 : Int)⟩
def k33 : Kd S33 := Kd.iso (Kd.pair (Kd.int .i32) (Kd.pair (Kd.slice 33 (Kd.int .u64)) (Kd.pair Kd.bool (Kd.int .i64)))) (fun x : S33 => (x.f0, x.f1, x.f2, x.f3))
theorem k33_open {w : World} {x : S33} {cs : List Value} (h : k33.K w x cs) : ∃ A1 c1, cs = [.int .i32 x.f0, .slice A1 x.f1.length c1, .bool x.f2, .int .i64 x.f3] ∧ x.f1.length ≤ c1 ∧ (Kd.int .u64).C w A1 x.f1.length x.f1 := by
 obtain ⟨_, _, rfl, rfl, ⟨_, _, rfl, ⟨A1, c1, rfl, l1, g1⟩, ⟨_, _, rfl, rfl, rfl⟩⟩⟩ := h
 exact ⟨A1, c1, rfl, l1, g1⟩
theorem k33_openM {w : World} {base : Nat} {ok : Nat → Prop} {x : S33} {cs : List Value} (h : k33.M w base ok x cs) : ∃ v1, cs = [.int .i32 x.f0, v1, .bool x.f2, .int .i64 x.f3] ∧ (Kd.int .u64).R 33 w base ok v1 x.f1 := by
 obtain ⟨_, _, rfl, rfl, ⟨_, _, rfl, ⟨v1, rfl, g1⟩, ⟨_, _, rfl, rfl, rfl⟩⟩⟩ := h
 exact ⟨v1, rfl, g1⟩
theorem k33_mkM (w : World) (base : Nat) (ok : Nat → Prop) (x : S33) {v1 : Value} (g1 : (Kd.int .u64).R 33 w base ok v1 x.f1) : k33.M w base ok x [.int .i32 x.f0, v1, .bool x.f2, .int .i64 x.f3] := ⟨[.int .i32 x.f0], [v1, .bool x.f2, .int .i64 x.f3], rfl, rfl, ⟨[v1], [.bool x.f2, .int .i64 x.f3], rfl, ⟨v1, rfl, g1⟩, ⟨[.bool x.f2], [.int .i64 x.f3], rfl, rfl, rfl⟩⟩⟩
theorem k33_openF {W : World} {ok : Nat → Prop} {x : S33} {cs : List Value} (h : Kd.FK k33 W ok x cs) : ∃ A1 c1, cs = [.int .i32 x.f0, .slice A1 x.f1.length c1, .bool x.f2, .int .i64 x.f3] ∧ x.f1.length ≤ c1 ∧ Kd.F (Kd.int .u64) W ok A1 x.f1.length x.f1 := by
 obtain ⟨A1, c1, rfl, l1, _⟩ := k33_open (Kd.FK_now h)
 exact ⟨A1, c1, rfl, l1, (fun W' hW => by obtain ⟨A1_, c1_, he, l1_, g1_⟩ := k33_open (h W' hW); injection (Option.some.inj (show some (Value.slice A1 x.f1.length c1) = some (Value.slice A1_ x.f1.length c1_) from congrArg (fun l => l[1]?) he)) with ha_ _ _; rw [ha_]; exact g1_)⟩
end Go.Proofs.YtgdoeoackhfikaaGreatDoor.G

namespace Go.Proofs.YtgdoeoackhfikaaGreatDoor
open Go.RowKit Go.Proofs.YtgdoeoackhfikaaGreatDoor.G Go.Proofs.YtgdoeoackhfikaaGreatDoorW.PrintWords
set_option linter.unusedVariables false
set_option linter.unusedSimpArgs false
def digs_ : ByteArray := ⟨#[48, 49, 50, 51, 52, 53, 54, 55, 56, 57, 44]⟩
def isNum (r : Int) : Bool := ofB digs_ r
def setA (e : S33) (l : List Int) (b : Bool) : S33 := ⟨e.f0, l, b, e.f3⟩
def shutE (e : S33) (txt : List Int) : S33 :=
 if isNum e.f0 = true then setA e [] false else setA e (numsOf (runesBytes txt)).1 (numsOf (runesBytes txt)).2
def closeF (es : List S33) (txt : List Int) (opn : Bool) : List S33 :=
 if opn = true then es.set (es.length - 1) (shutE (es.getD (es.length - 1) z33) txt) else es
def TextRow (w : World) (B : Nat) (gt ct : Nat) (txt : List Int) : Prop := w.ownsRow B 21 1 (.slice (some ⟨gt, 0, none⟩) txt.length ct) txt.length (nums .i32 txt)
theorem TextRow.cells {w : World} {B gt ct : Nat} {txt : List Int} (h : TextRow w B gt ct txt) : ∀ j, j < txt.length → w.cell? ((⟨gt, 0, none⟩ : Addr).add j) = some (.int .i32 (txt.getD j 0)) := by
 obtain ⟨A, c, hv, hr⟩ := own_reads h
 injection hv with ha _ _
 subst ha
 intro j hj
 obtain ⟨ad, e, hc⟩ := hr.at_ (j : Int) (by omega) (by omega)
 injection e with e
 subst e
 simpa [rd] using hc
theorem TextRow.cut {w : World} {B gt ct : Nat} {txt : List Int} (h : TextRow w B gt ct txt) : TextRow w B gt ct [] := by
 obtain ⟨h1, h2⟩ := h
 refine ⟨rfl, ?_⟩
 rcases h2 with ⟨hv, _⟩ | ⟨g, cap, cur, hv, hb, hg, hn, hm, hs, ht⟩
 ·cases hv
 ·injection hv with ha _ hc
  exact .inr ⟨g, cap, cur, by rw [ha, hc], hb, hg, Nat.zero_le _, hm, hs, by simp [nums]⟩
theorem TextRow.keep {w w' : World} {B gt ct : Nat} {txt : List Int} (h : TextRow w B gt ct txt) (hk : w'.heap[gt]? = w.heap[gt]?) : TextRow w' B gt ct txt := own_move h (fun k hk' => by simp [Value.ownBlock] at hk'; subst hk'; exact hk)
theorem TextRow.blk {w : World} {B gt ct : Nat} {txt : List Int} (h : TextRow w B gt ct txt) : ∃ cells, w.heap[gt]? = some (.cells cells 21 (0, 0)) := own_typed h gt rfl
theorem TextRow.capLe {w : World} {B gt ct : Nat} {txt : List Int} (h : TextRow w B gt ct txt) : txt.length ≤ ct := by
 rcases h.2 with ⟨hv, _⟩ | ⟨g, cap, cur, hv, hb, hg, hn, hm, hs, ht⟩
 ·cases hv
 ·injection hv with _ _ hc
  omega
def TX (gt : Nat) (txt : List Int) (W : World) : Prop := ∀ j, j < txt.length → W.cell? ((⟨gt, 0, none⟩ : Addr).add j) = some (.int .i32 (txt.getD j 0))
theorem TX_far {gt : Nat} {txt : List Int} {W : World} (h : TX gt txt W) {p : Addr} (hp : gt ≠ p.block) (u : Value) : TX gt txt (W.setCell p u) := fun j hj => by
 have hb : (W.setCell p u).heap[((⟨gt, 0, none⟩ : Addr).add j).block]? = W.heap[((⟨gt, 0, none⟩ : Addr).add j).block]? := Below.heap_setCell _ _ _ _ (by rw [add_plain]; exact hp)
 exact (World.cell?_of_block (w := W) hb).trans (h j hj)
structure Vars (w : World) (B bo bq bt : Nat) (vo : Value) (es : List S33) (opn : Bool) (gt ct : Nat) (txt : List Int) : Prop where
 o : w.heap[bo]? = some (.cells #[vo] 48 (0, 0))
 q : w.heap[bq]? = some (.cells #[.bool opn] 4 (0, 0))
 t : w.heap[bt]? = some (.cells #[.slice (some ⟨gt, 0, none⟩) txt.length ct] 140 (0, 0))
 bo : B ≤ bo
 bq : B ≤ bq
 bt : B ≤ bt
 row : Kd.S k33 39 w B (fun _ => True) vo es
 text : TextRow w B gt ct txt
def ClosePost (w : World) (B bo bq bt : Nat) (vo : Value) (es : List S33) (opn : Bool) (gt ct : Nat) (txt : List Int) (e : Ending) (w' : World) : Prop :=
 e = .returned (.tuple #[]) ∧ Vars w' B bo bq bt vo (closeF es txt opn) false gt ct [] ∧ Below B w w' ∧ Kept w w' (fun k => k = bq ∨ k = bt ∨ some k = vo.ownBlock)
theorem Vars.shut {w : World} {B bo bq bt : Nat} {vo : Value} {es : List S33} {opn opn' : Bool} {gt ct : Nat} {txt : List Int} (h : Vars w B bo bq bt vo es opn gt ct txt) :
  Vars ((w.setCell ⟨bt, 0, none⟩ (.slice (some ⟨gt, 0, none⟩) 0 ct)).setCell ⟨bq, 0, none⟩ (.bool opn')) B bo bq bt vo es opn' gt ct [] := by
 obtain ⟨ho, hq, ht, b1, b2, b3, hr, hx⟩ := h
 have hbq : bo ≠ bq := blk_ne ho hq (by decide)
 have hbt : bo ≠ bt := blk_ne ho ht (by decide)
 have hqt : bq ≠ bt := blk_ne hq ht (by decide)
 refine ⟨?_, ?_, ?_, b1, b2, b3, ?_, ?_⟩
 ·rw [Below.heap_setCell _ _ _ _ hbq, Below.heap_setCell _ _ _ _ hbt]; exact ho
 ·have h1 : (w.setCell ⟨bt, 0, none⟩ (.slice (some ⟨gt, 0, none⟩) 0 ct)).heap[bq]? = some (.cells #[.bool opn] 4 (0, 0)) := by rw [Below.heap_setCell _ _ _ _ hqt]; exact hq
  exact blk_set h1 0 _
 ·rw [Below.heap_setCell _ _ _ _ (Ne.symm hqt)]; exact blk_set ht 0 _
 ·refine Kd.S_set (t := 4) (cells := #[.bool opn]) (Kd.S_set (t := 140) hr ht (by decide) 0 _) ?_ (by decide) 0 _
  rw [Below.heap_setCell _ _ _ _ hqt]; exact hq
 ·obtain ⟨cells, hc⟩ := hx.blk
  have g1 : gt ≠ bt := blk_ne hc ht (by decide)
  have g2 : gt ≠ bq := blk_ne hc hq (by decide)
  exact hx.cut.keep (by rw [Below.heap_setCell _ _ _ _ g2, Below.heap_setCell _ _ _ _ g1])
theorem shut_below {w : World} {B bq bt : Nat} (u v : Value) (hq : B ≤ bq) (ht : B ≤ bt) : Below B w ((w.setCell ⟨bt, 0, none⟩ u).setCell ⟨bq, 0, none⟩ v) :=
 ((Below.refl B w).setCell (p := ⟨bt, 0, none⟩) ht u).setCell (p := ⟨bq, 0, none⟩) hq v
theorem shut_kept {w W : World} {bq bt : Nat} {S : Nat → Prop} (h : Kept w W (fun k => k = bq ∨ k = bt ∨ S k)) (u v : Value) : Kept w ((W.setCell ⟨bt, 0, none⟩ u).setCell ⟨bq, 0, none⟩ v) (fun k => k = bq ∨ k = bt ∨ S k) :=
 (h.setCell (p := ⟨bt, 0, none⟩) (.inl (.inr (.inl rfl))) u).setCell (p := ⟨bq, 0, none⟩) (.inl (.inl rfl)) v
set_option maxHeartbeats 4000000 in
set_option maxRecDepth 100000 in
theorem close_no (w : World) (B bo bq bt : Nat) (A : Option Addr) (c : Nat) (es : List S33) (gt ct : Nat) (txt : List Int) (hv : Vars w B bo bq bt (.slice A es.length c) es false gt ct txt) :
  Calls Tryz.prog 51 #[.pointer (some ⟨bo, 0, none⟩), .pointer (some ⟨bq, 0, none⟩), .pointer (some ⟨bt, 0, none⟩)] w (ClosePost w B bo bq bt (.slice A es.length c) es false gt ct txt) := by
 have c0 : w.cell? ⟨bo, 0, none⟩ = some (.slice A es.length c) := by rw [Lib.cell_of_heap hv.o]; rfl
 have c1 : w.cell? ⟨bq, 0, none⟩ = some (.bool false) := by rw [Lib.cell_of_heap hv.q]; rfl
 have c2 : w.cell? ⟨bt, 0, none⟩ = some (.slice (some ⟨gt, 0, none⟩) txt.length ct) := by rw [Lib.cell_of_heap hv.t]; rfl
 have f1 : w.frozen? ⟨bq, 0, none⟩ = false := Lib.frozen_of_heap hv.q 0
 have f2 : w.frozen? ⟨bt, 0, none⟩ = false := Lib.frozen_of_heap hv.t 0
 have hqt : bq ≠ bt := blk_ne hv.q hv.t (by decide)
 have hcl := hv.text.capLe
 have c3 : (w.setCell ⟨bt, 0, none⟩ (.slice (some ⟨gt, 0, none⟩) 0 ct)).cell? ⟨bq, 0, none⟩ = some (.bool false) := by
  have hne : (⟨bt, 0, none⟩ : Addr) ≠ ⟨bq, 0, none⟩ := fun e => by injection e with e; exact hqt e.symm
  rw [World.cell?_setCell_other _ _ _ _ hne]; exact c1
 have HV := Lib.hid hv
 have HQ := Lib.hid hqt
 clear hv hqt
 go_enter Tryz.func51, Tryz.ntmps51
 go_wp2_with fail
 go_end0
 exact ⟨rfl, HV.out.shut, shut_below _ _ HV.out.bq HV.out.bt, shut_kept (Kept.refl _ _) _ _⟩
theorem Vars.last {w : World} {B bo bq bt : Nat} {vo : Value} {es : List S33} {opn : Bool} {gt ct m : Nat} {txt : List Int} (h : Vars w B bo bq bt vo es opn gt ct txt) (hm : es.length = m + 1) :
  ∃ g cap, vo = .slice (some ⟨g, 0, none⟩) (m + 1) cap ∧ B ≤ g ∧ (∃ cells, w.heap[g]? = some (.cells cells 39 (0, 0))) ∧ ∃ va, w.cell? ⟨g, m * 4, none⟩ = some (.int .i32 (es.getD m z33).f0) ∧ w.cell? ⟨g, m * 4 + 1, none⟩ = some va ∧ w.cell? ⟨g, m * 4 + 2, none⟩ = some (.bool (es.getD m z33).f2) := by
 obtain ⟨g, cap, hv, hb, hlt, hc⟩ := Kd.S_form h.row (by omega)
 rw [hm] at hv
 refine ⟨g, cap, hv, hb, hc, ?_⟩
 have hr := h.row
 rw [hv] at hr
 obtain ⟨cs, hcl, hM, hat⟩ := Kd.S_get hr z33 (m : Int) (by omega) (by omega)
 obtain ⟨v1, hcs, _⟩ := k33_openM hM
 subst hcs
 have a0 := hat 0 _ rfl
 have a1 := hat 1 _ rfl
 have a2 := hat 2 _ rfl
 rw [add_plain] at a0 a1 a2
 have e4 : k33.sz = 4 := rfl
 simp only [Nat.zero_add, Int.toNat_natCast, e4, Nat.add_zero] at a0 a1 a2
 exact ⟨v1, a0, a1, a2⟩
theorem Vars.set2 {w : World} {B bo bq bt : Nat} {es : List S33} {opn : Bool} {g n cap gt ct m : Nat} {txt : List Int} (h : Vars w B bo bq bt (.slice (some ⟨g, 0, none⟩) n cap) es opn gt ct txt) (hm : m < es.length) (okp : Nat → Prop) (va : Value) (args : List Int) (b : Bool)
  (hS : Kd.S k33 39 w B (fun k => True ∧ ¬ okp k) (.slice (some ⟨g, 0, none⟩) n cap) es) (hR : (Kd.int .u64).R 33 w B okp va args) (hg : ∀ k, okp k → k ≠ g) :
  Vars ((w.setCell ⟨g, m * 4 + 1, none⟩ va).setCell ⟨g, m * 4 + 2, none⟩ (.bool b)) B bo bq bt (.slice (some ⟨g, 0, none⟩) n cap) (es.set m (setA (es.getD m z33) args b)) opn gt ct txt := by
 obtain ⟨cells, hgc⟩ := Kd.S_typed h.row g rfl
 have ho := h.o
 have hq := h.q
 have ht := h.t
 obtain ⟨cx, hx⟩ := h.text.blk
 have n1 : bo ≠ g := blk_ne ho hgc (by decide)
 have n2 : bq ≠ g := blk_ne hq hgc (by decide)
 have n3 : bt ≠ g := blk_ne ht hgc (by decide)
 have n4 : gt ≠ g := blk_ne hx hgc (by decide)
 refine ⟨?_, ?_, ?_, h.bo, h.bq, h.bt, ?_, ?_⟩
 ·rw [Below.heap_setCell _ _ _ _ n1, Below.heap_setCell _ _ _ _ n1]; exact ho
 ·rw [Below.heap_setCell _ _ _ _ n2, Below.heap_setCell _ _ _ _ n2]; exact hq
 ·rw [Below.heap_setCell _ _ _ _ n3, Below.heap_setCell _ _ _ _ n3]; exact ht
 ·refine Kd.S_set2 (d := k33) (okp := okp) hS m 1 2 hm (by decide) (by decide) va (.bool b) _ (fun k hk => ⟨trivial, hg k hk⟩) ?_
  intro x c hx' hK
  obtain ⟨A1, c1, rfl, _, _⟩ := k33_open hK
  have hxe : es.getD m z33 = x := by simp [List.getD, hx']
  rw [hxe]
  have hR' : (Kd.int .u64).R 33 ((w.setCell ⟨g, m * 4 + 1, none⟩ va).setCell ⟨g, m * 4 + 2, none⟩ (.bool b)) B okp va args :=
   Kd.R_far (Kd.R_far hR (fun k hk => hg k hk) _) (fun k hk => hg k hk) _
  exact k33_mkM _ B okp (setA x args b) hR'
 ·exact (h.text.keep (w' := w.setCell ⟨g, m * 4 + 1, none⟩ va) (Below.heap_setCell _ _ _ _ n4)).keep (Below.heap_setCell _ _ _ _ n4)
theorem Vars.below {w w1 : World} {B bo bq bt : Nat} {vo : Value} {es : List S33} {opn : Bool} {gt ct : Nat} {txt : List Int} (h : Vars w B bo bq bt vo es opn gt ct txt) (hb : Below w.heap.size w w1) : Vars w1 B bo bq bt vo es opn gt ct txt := by
 obtain ⟨cx, hx⟩ := h.text.blk
 exact ⟨(hb.block _ (blk_lt h.o)).trans h.o, (hb.block _ (blk_lt h.q)).trans h.q, (hb.block _ (blk_lt h.t)).trans h.t, h.bo, h.bq, h.bt, Kd.S_below h.row hb, h.text.keep (hb.block _ (blk_lt hx))⟩
set_option maxHeartbeats 16000000 in
set_option maxRecDepth 100000 in
theorem close_yes (w : World) (B bo bq bt : Nat) (vo : Value) (es : List S33) (gt ct m : Nat) (txt : List Int) (hv : Vars w B bo bq bt vo es true gt ct txt) (hm : es.length = m + 1) (hml : m < 4294967296) (htx : txt.length < 1000000000) (hG : GG w) (hBw : B ≤ w.heap.size) :
  Calls Tryz.prog 51 #[.pointer (some ⟨bo, 0, none⟩), .pointer (some ⟨bq, 0, none⟩), .pointer (some ⟨bt, 0, none⟩)] w (ClosePost w B bo bq bt vo es true gt ct txt) := by
 obtain ⟨g, cap, rfl, hBg, ⟨cells, hgc⟩, va, e0, e1, e2⟩ := hv.last hm
 obtain ⟨op, hop⟩ : ∃ op, op = (es.getD m z33).f0 := ⟨_, rfl⟩
 obtain ⟨ok0, hok⟩ : ∃ ok0, ok0 = (es.getD m z33).f2 := ⟨_, rfl⟩
 rw [← hop] at e0
 rw [← hok] at e2
 have c0 : w.drew.cell? ⟨bo, 0, none⟩ = some (.slice (some ⟨g, 0, none⟩) (m + 1) cap) := by
  have : w.drew.heap[bo]? = some (.cells #[.slice (some ⟨g, 0, none⟩) (m + 1) cap] 48 (0, 0)) := hv.o
  rw [Lib.cell_of_heap this]; rfl
 have c0' : w.cell? ⟨bo, 0, none⟩ = some (.slice (some ⟨g, 0, none⟩) (m + 1) cap) := by rw [Lib.cell_of_heap hv.o]; rfl
 have c1 : w.cell? ⟨bq, 0, none⟩ = some (.bool true) := by rw [Lib.cell_of_heap hv.q]; rfl
 have c2 : w.drew.cell? ⟨bt, 0, none⟩ = some (.slice (some ⟨gt, 0, none⟩) txt.length ct) := by
  have : w.drew.heap[bt]? = some (.cells #[.slice (some ⟨gt, 0, none⟩) txt.length ct] 140 (0, 0)) := hv.t
  rw [Lib.cell_of_heap this]; rfl
 have hcv : ∀ W : World, TX gt txt W → (convert 140 9 (.slice (some ⟨gt, 0, none⟩) txt.length ct)).run Tryz.prog W = .ok (.string (runesBytes txt)) W := fun W hc => by
  have := run_convert_runes W 140 9 21 ⟨gt, 0, none⟩ txt.length ct txt (Nat.le_refl _) Tryz.underlying140 Tryz.underlying21 Tryz.underlying9 hc
  rw [List.take_length] at this
  exact this
 have hT0 : TX gt txt w.drew := fun j hj => hv.text.cells j hj
 have HT0 := Lib.hid hT0
 have hb0 : (0 : Int) ≤ (m : Int) := Int.natCast_nonneg _
 have hb1 : (m : Int) < (m : Int) + 1 := by omega
 have hgo : g ≠ bo := blk_ne hgc hv.o (by decide)
 have hgx : gt ≠ g := by
  obtain ⟨cells', hc'⟩ := hv.text.blk
  exact blk_ne hc' hgc (by decide)
 have hgt : g ≠ bt := blk_ne hgc hv.t (by decide)
 have HSZ : Hid ((runesBytes txt).size < 4294967281) := Lib.hid (by have := runesBytes_size_le txt; omega)
 have HK : Hid (∀ w1 : World, Below w.drew.heap.size w.drew w1 → w1.cell? ⟨bo, 0, none⟩ = some (.slice (some ⟨g, 0, none⟩) (m + 1) cap) ∧ w1.cell? ⟨bt, 0, none⟩ = some (.slice (some ⟨gt, 0, none⟩) txt.length ct) ∧
   w1.cell? ⟨g, m * 4 + 1, none⟩ = some va ∧ w1.cell? ⟨g, m * 4 + 2, none⟩ = some (.bool ok0) ∧ w1.frozen? ⟨g, m * 4 + 1, none⟩ = false ∧ w1.frozen? ⟨g, m * 4 + 2, none⟩ = false ∧ TX gt txt w1) := Lib.hid (fun w1 hb => by
  have hgc1 : w1.heap[g]? = some (.cells cells 39 (0, 0)) := (hb.block g (blk_lt hgc)).trans hgc
  have hce : ∀ (a : Addr) v, w.cell? a = some v → w1.cell? a = some v := fun a v hc => (hb.cell (World.block_lt_of_cell? w a hc)).trans hc
  exact ⟨hce _ _ c0', hce _ _ c2, hce _ _ e1, hce _ _ e2, Lib.frozen_of_heap hgc1 _, Lib.frozen_of_heap hgc1 _, fun j hj => hce _ _ (hT0 j hj)⟩)
 have HV := Lib.hid hv
 have HM := Lib.hid hm
 have HOP := Lib.hid hop
 have HOK := Lib.hid hok
 have HCV := Lib.hid hcv
 have HG := Lib.hid hG
 clear hv hm hop hok hcv hT0 hG
 go_enter Tryz.func51, Tryz.ntmps51
 go_wp2_with fail
 have hcv := HCV.out
 have hT0 := HT0.out
 go_region_held3 (fun w' => w'.cell? ⟨bo, 0, none⟩ = some (.slice (some ⟨g, 0, none⟩) (m + 1) cap) ∧ w'.cell? ⟨bt, 0, none⟩ = some (.slice (some ⟨gt, 0, none⟩) txt.length ct) ∧ TX gt txt w')
  (first | exact ⟨c0, c2, hT0⟩ | exact ⟨d0, d2, d7⟩ | exact ⟨by go_keep, by go_keep, TX_far d7 hgx _⟩ | exact ⟨by go_keep, by go_keep, TX_far (TX_far d7 hgx _) hgx _⟩)
  ((first
   | (go_at_call 52; refine (numbers_walk _ _ ?_ ?_).mono ?_; exact HSZ.out; exact GG_at HG.out ((Below.refl _ _).drew); rintro e w1 ⟨v1, rfl, ho1, hbw⟩; obtain ⟨d0, d2, d3, d4, d5, d6, d7⟩ := HK.out w1 hbw; obtain ⟨A1, k1, rfl⟩ := own_slice ho1)))
 clear hcv hT0
 obtain ⟨nl, hnl⟩ : ∃ nl, nl = (numsOf (runesBytes txt)).1 := ⟨_, rfl⟩
 obtain ⟨nb, hnb⟩ : ∃ nb, nb = (numsOf (runesBytes txt)).2 := ⟨_, rfl⟩
 rw [← hnl] at ho1 ⊢
 rw [← hnb]
 have HN1 := Lib.hid hnl
 have HN2 := Lib.hid hnb
 clear hnl hnb
 have hb1' : Below w.heap.size w w1 := ⟨hbw.os, hbw.tape, hbw.output, hbw.size, hbw.block⟩
 have hS1 : Kd.S k33 39 w1 B (fun k => True ∧ ¬ w.heap.size ≤ k) (.slice (some ⟨g, 0, none⟩) (m + 1) cap) es :=
  Kd.S_mono (Kd.S_below (Kd.S_bound HV.out.row) hb1') (fun k hk => ⟨trivial, by have := hk.2.2.1; omega⟩)
 have ho1' : w1.ownsRow w.heap.size 33 1 (.slice A1 nl.length k1) nl.length (encs (Value.int .u64) nl) := ho1
 have hR1 : (Kd.int .u64).R 33 w1 B (fun k => w.heap.size ≤ k) (.slice A1 nl.length k1) nl := Kd.R_of_own (own_weaken ho1' hBw) (fun k hk => own_base ho1' k hk)
 have hv2 := (HV.out.below hb1').set2 (m := m) (by have := HM.out; omega) (fun k => w.heap.size ≤ k) (.slice A1 nl.length k1) nl nb hS1 hR1 (fun k hk => by have := blk_lt hgc; omega)
 have hbel2 : Below B w ((w1.setCell ⟨g, m * 4 + 1, none⟩ (.slice A1 nl.length k1)).setCell ⟨g, m * 4 + 2, none⟩ (.bool nb)) :=
  ((hb1'.mono hBw).setCell (p := ⟨g, m * 4 + 1, none⟩) hBg _).setCell (p := ⟨g, m * 4 + 2, none⟩) hBg _
 have hkp2 : Kept w ((w1.setCell ⟨g, m * 4 + 1, none⟩ (.slice A1 nl.length k1)).setCell ⟨g, m * 4 + 2, none⟩ (.bool nb)) (fun k => k = bq ∨ k = bt ∨ some k = (Value.slice (some ⟨g, 0, none⟩) (m + 1) cap).ownBlock) :=
  ((Kept.of_below hb1' _).setCell (p := ⟨g, m * 4 + 1, none⟩) (.inl (.inr (.inr rfl))) _).setCell (p := ⟨g, m * 4 + 2, none⟩) (.inl (.inr (.inr rfl))) _
 clear d0 d2 d3 d4 d5 d6 d7 hS1 ho1 ho1' hR1
 rename_i hheld_
 clear hheld_
 obtain ⟨w2, hw2⟩ : ∃ w2, w2 = (w1.setCell ⟨g, m * 4 + 1, none⟩ (.slice A1 nl.length k1)).setCell ⟨g, m * 4 + 2, none⟩ (.bool nb) := ⟨_, rfl⟩
 rw [← hw2] at hv2 hbel2 hkp2 ⊢
 have hs12 : w.heap.size ≤ w2.heap.size := hbel2.size
 clear hw2 hbw hb1' e0 e1 e2 c0 c0' c1 c2 HK HCV HT0
 have hm2 : (es.set m (setA (es.getD m z33) nl nb)).length = m + 1 := by rw [List.length_set]; exact HM.out
 have hgd : (es.set m (setA (es.getD m z33) nl nb)).getD m z33 = setA (es.getD m z33) nl nb := by simp [List.getD, HM.out]
 obtain ⟨g', cap', hvo', _, ⟨cells2, hgc2⟩, va2, a0, a1, a2⟩ := hv2.last hm2
 injection hvo' with hx1 _ hx2
 injection hx1 with hx1
 injection hx1 with hx1
 subst hx1 hx2
 rw [hgd] at a0 a2
 have a0' : w2.cell? ⟨g, m * 4, none⟩ = some (.int .i32 op) := by rw [a0, HOP.out]; rfl
 have b0 : w2.cell? ⟨bo, 0, none⟩ = some (.slice (some ⟨g, 0, none⟩) (m + 1) cap) := by rw [Lib.cell_of_heap hv2.o]; rfl
 have HGD := Lib.hid hgd
 have HM2 := Lib.hid hm2
 have HV2 := Lib.hid hv2
 have HBEL := Lib.hid hbel2
 have HKP := Lib.hid hkp2
 clear a0 hgd hm2 hv2 hbel2 hkp2
 by_cases hnum : isNum op = true
 ·have HNUM := Lib.hid hnum
  clear hnum
  go_wp2_with fail
  refine (of_walk digs_ _ _ (by decide)).mono ?_
  rintro e w3 ⟨rfl, hb3⟩
  have hv3 := HV2.out.below hb3
  have HB3 := Lib.hid hb3
  have hs23 := hb3.size
  obtain ⟨g', cap', hvo', _, ⟨cells3, hgc3⟩, va3, _, d1, d2⟩ := hv3.last HM2.out
  injection hvo' with hx1 _ hx2
  injection hx1 with hx1
  injection hx1 with hx1
  subst hx1 hx2
  rw [show ofB digs_ op = true from HNUM.out]
  have b3 : w3.drew.cell? ⟨bo, 0, none⟩ = some (.slice (some ⟨g, 0, none⟩) (m + 1) cap) := by
   have : w3.drew.heap[bo]? = some (.cells #[.slice (some ⟨g, 0, none⟩) (m + 1) cap] 48 (0, 0)) := hv3.o
   rw [Lib.cell_of_heap this]; rfl
  obtain ⟨ok3, hok3⟩ : ∃ ok3, ok3 = ((es.set m (setA (es.getD m z33) nl nb)).getD m z33).f2 := ⟨_, rfl⟩
  rw [← hok3] at d2
  have d1' : w3.drew.cell? ⟨g, m * 4 + 1, none⟩ = some va3 := d1
  have d2' : w3.drew.cell? ⟨g, m * 4 + 2, none⟩ = some (.bool ok3) := d2
  have f3 : w3.drew.frozen? ⟨g, m * 4 + 1, none⟩ = false := Lib.frozen_of_heap hgc3 _
  have f4 : w3.drew.frozen? ⟨g, m * 4 + 2, none⟩ = false := Lib.frozen_of_heap hgc3 _
  have hneo : ∀ o1 : Nat, (⟨g, o1, none⟩ : Addr) ≠ ⟨bo, 0, none⟩ := fun o1 e => by injection e with e; exact hgo e
  have HF1 : Hid (∀ (o1 : Nat) (v : Value), (w3.setCell ⟨g, o1, none⟩ v).drew.cell? ⟨bo, 0, none⟩ = some (.slice (some ⟨g, 0, none⟩) (m + 1) cap)) := Lib.hid (fun o1 v => by
   show (w3.setCell ⟨g, o1, none⟩ v).cell? ⟨bo, 0, none⟩ = _
   rw [World.cell?_setCell_other _ _ _ _ (hneo o1)]; exact b3)
  have HF2 : Hid (∀ (o1 : Nat) (v : Value) (o2 : Nat) (v2 : Value), ((w3.setCell ⟨g, o1, none⟩ v).setCell ⟨g, o2, none⟩ v2).drew.cell? ⟨bo, 0, none⟩ = some (.slice (some ⟨g, 0, none⟩) (m + 1) cap)) := Lib.hid (fun o1 v o2 v2 => by
   show ((w3.setCell ⟨g, o1, none⟩ v).setCell ⟨g, o2, none⟩ v2).cell? ⟨bo, 0, none⟩ = _
   rw [World.cell?_setCell_other _ _ _ _ (hneo o2), World.cell?_setCell_other _ _ _ _ (hneo o1)]; exact b3)
  have hne12 : (⟨g, m * 4 + 1, none⟩ : Addr) ≠ ⟨g, m * 4 + 2, none⟩ := fun e => by injection e with e1 e2; omega
  have d5 : (w3.setCell ⟨g, m * 4 + 1, none⟩ (.slice none 0 0)).cell? ⟨g, m * 4 + 2, none⟩ = some (.bool ok3) := by
   rw [World.cell?_setCell_other _ _ _ _ hne12]; exact d2
  have d5' : (w3.setCell ⟨g, m * 4 + 1, none⟩ (.slice none 0 0)).drew.cell? ⟨g, m * 4 + 2, none⟩ = some (.bool ok3) := d5
  have f5 : (w3.setCell ⟨g, m * 4 + 1, none⟩ (.slice none 0 0)).frozen? ⟨g, m * 4 + 2, none⟩ = false := by rw [World.frozen?_setCell]; exact f4
  have f5' : (w3.setCell ⟨g, m * 4 + 1, none⟩ (.slice none 0 0)).drew.frozen? ⟨g, m * 4 + 2, none⟩ = false := f5
  have f6 : w3.frozen? ⟨g, m * 4 + 2, none⟩ = false := f4
  have HV3 := Lib.hid hv3
  clear hneo hne12
  clear hv3 hok3 hb3 a0' a1 a2 b0 d1 d2
  go_wp2_with fail
  go_region_held3 (fun w' => w'.cell? ⟨bo, 0, none⟩ = some (.slice (some ⟨g, 0, none⟩) (m + 1) cap))
   (first | exact b3 | exact HF1.out _ _ | exact HF2.out _ _ _ _)
   (fail)
  have hm3 : m < (es.set m (setA (es.getD m z33) nl nb)).length := by have := HM2.out; omega
  have hv4 := HV3.out.set2 (m := m) hm3 (fun _ => False) (.slice none 0 0) [] false (Kd.S_mono HV3.out.row (fun _ _ => ⟨trivial, fun h => h⟩)) (Kd.R_nil _ _ _ _ _) (fun _ h => h.elim)
  have hbel4 : Below B w ((w3.setCell ⟨g, m * 4 + 1, none⟩ (.slice none 0 0)).setCell ⟨g, m * 4 + 2, none⟩ (.bool false)) :=
   ((HBEL.out.trans (HB3.out.mono (by omega))).setCell (p := ⟨g, m * 4 + 1, none⟩) hBg _).setCell (p := ⟨g, m * 4 + 2, none⟩) hBg _
  have hkp4 : Kept w ((w3.setCell ⟨g, m * 4 + 1, none⟩ (.slice none 0 0)).setCell ⟨g, m * 4 + 2, none⟩ (.bool false)) (fun k => k = bq ∨ k = bt ∨ some k = (Value.slice (some ⟨g, 0, none⟩) (m + 1) cap).ownBlock) :=
   ((HKP.out.below HB3.out).setCell (p := ⟨g, m * 4 + 1, none⟩) (.inl (.inr (.inr rfl))) _).setCell (p := ⟨g, m * 4 + 2, none⟩) (.inl (.inr (.inr rfl))) _
  obtain ⟨w4, hw4⟩ : ∃ w4, w4 = (w3.setCell ⟨g, m * 4 + 1, none⟩ (.slice none 0 0)).setCell ⟨g, m * 4 + 2, none⟩ (.bool false) := ⟨_, rfl⟩
  rw [← hw4] at hv4 hbel4 hkp4 ⊢
  clear hw4 b3 d1' d2' d5 d5' f3 f4 f5 f5' f6 hm3
  rename_i hheld_
  clear hheld_
  have hset : (es.set m (setA (es.getD m z33) nl nb)).set m (setA ((es.set m (setA (es.getD m z33) nl nb)).getD m z33) [] false) = es.set m (setA (es.getD m z33) [] false) := by
   rw [HGD.out, List.set_set]; rfl
  rw [hset] at hv4
  have hv5 : Vars w4.drew B bo bq bt (.slice (some ⟨g, 0, none⟩) (m + 1) cap) (es.set m (setA (es.getD m z33) [] false)) true gt ct txt := ⟨hv4.o, hv4.q, hv4.t, hv4.bo, hv4.bq, hv4.bt, Kd.S_drew hv4.row, hv4.text⟩
  have hbel5 : Below B w w4.drew := hbel4.drew
  have hkp5 := hkp4.drew
  obtain ⟨w5, hw5⟩ : ∃ w5, w5 = w4.drew := ⟨_, rfl⟩
  rw [← hw5] at hv5 hbel5 hkp5 ⊢
  clear hw5 hbel4 hkp4
  have c1 : w5.cell? ⟨bq, 0, none⟩ = some (.bool true) := by rw [Lib.cell_of_heap hv5.q]; rfl
  have c2 : w5.cell? ⟨bt, 0, none⟩ = some (.slice (some ⟨gt, 0, none⟩) txt.length ct) := by rw [Lib.cell_of_heap hv5.t]; rfl
  have f1 : w5.frozen? ⟨bq, 0, none⟩ = false := Lib.frozen_of_heap hv5.q 0
  have f2 : w5.frozen? ⟨bt, 0, none⟩ = false := Lib.frozen_of_heap hv5.t 0
  have hqt : bq ≠ bt := blk_ne hv5.q hv5.t (by decide)
  have hcl := hv5.text.capLe
  have hne : (⟨bt, 0, none⟩ : Addr) ≠ ⟨bq, 0, none⟩ := fun e => by injection e with e; exact hqt e.symm
  have c3 : (w5.setCell ⟨bt, 0, none⟩ (.slice (some ⟨gt, 0, none⟩) 0 ct)).cell? ⟨bq, 0, none⟩ = some (.bool true) := by
   rw [World.cell?_setCell_other _ _ _ _ hne]; exact c1
  have HV5 := Lib.hid hv5
  clear hv4 hv5 hqt hset hne
  go_wp2_with fail
  go_end0
  refine ⟨rfl, ?_, ?_, ?_⟩
  ·have e1 : closeF es txt true = es.set m (setA (es.getD m z33) [] false) := by
    unfold closeF shutE
    rw [if_pos rfl, HM.out, Nat.add_sub_cancel, ← HOP.out, HNUM.out, if_pos rfl]
   rw [e1]
   exact HV5.out.shut
  ·exact hbel5.trans (shut_below _ _ HV5.out.bq HV5.out.bt)
  ·exact shut_kept hkp5 _ _
 ·have hnum' : isNum op = false := by simpa using hnum
  have HNUM := Lib.hid hnum'
  clear hnum hnum'
  go_wp2_with fail
  refine (of_walk digs_ _ _ (by decide)).mono ?_
  rintro e w3 ⟨rfl, hb3⟩
  have hv3 := HV2.out.below hb3
  rw [show ofB digs_ op = false from HNUM.out]
  have c1 : w3.cell? ⟨bq, 0, none⟩ = some (.bool true) := by rw [Lib.cell_of_heap hv3.q]; rfl
  have c2 : w3.cell? ⟨bt, 0, none⟩ = some (.slice (some ⟨gt, 0, none⟩) txt.length ct) := by rw [Lib.cell_of_heap hv3.t]; rfl
  have f1 : w3.frozen? ⟨bq, 0, none⟩ = false := Lib.frozen_of_heap hv3.q 0
  have f2 : w3.frozen? ⟨bt, 0, none⟩ = false := Lib.frozen_of_heap hv3.t 0
  have hqt : bq ≠ bt := blk_ne hv3.q hv3.t (by decide)
  have hcl := hv3.text.capLe
  have c3 : (w3.setCell ⟨bt, 0, none⟩ (.slice (some ⟨gt, 0, none⟩) 0 ct)).cell? ⟨bq, 0, none⟩ = some (.bool true) := by
   have hne : (⟨bt, 0, none⟩ : Addr) ≠ ⟨bq, 0, none⟩ := fun e => by injection e with e; exact hqt e.symm
   rw [World.cell?_setCell_other _ _ _ _ hne]; exact c1
  have HV3 := Lib.hid hv3
  have HB3 := Lib.hid hb3
  clear hv3 hqt hb3 a0' a1 a2 b0
  go_wp2_with fail
  go_end0
  refine ⟨rfl, ?_, ?_, ?_⟩
  ·have e1 : closeF es txt true = es.set m (setA (es.getD m z33) nl nb) := by
    unfold closeF shutE
    rw [if_pos rfl, HM.out, Nat.add_sub_cancel, ← HOP.out, HNUM.out, if_neg (by decide), HN1.out, HN2.out]
   rw [e1]
   exact HV3.out.shut
  ·exact (HBEL.out.trans (HB3.out.mono (by omega))).trans (shut_below _ _ HV3.out.bq HV3.out.bt)
  ·exact shut_kept (HKP.out.below HB3.out) _ _
end Go.Proofs.YtgdoeoackhfikaaGreatDoor

namespace Go.Proofs.YtgdoeoackhfikaaGreatDoor
open Go.RowKit Go.Proofs.YtgdoeoackhfikaaGreatDoor.G Go.Proofs.YtgdoeoackhfikaaGreatDoorW.PrintWords
set_option linter.unusedVariables false
set_option linter.unusedSimpArgs false
structure PSt where
 es : List S33
 txt : List Int
 opn : Bool
def blanks_ : ByteArray := ⟨#[32, 9, 10]⟩
def isBlank (r : Int) : Bool := ofB blanks_ r
def newE (r : Int) (at_ : Nat) : S33 := ⟨r, [], false, (at_ : Int)⟩
def stepP (st : PSt) (p : Nat × Int) : PSt :=
 if isBlank p.2 = true then ⟨closeF st.es st.txt st.opn, [], false⟩
 else if st.opn = true ∧ isNum p.2 = true then ⟨st.es, st.txt ++ [p.2], st.opn⟩
 else ⟨closeF st.es st.txt st.opn ++ [newE p.2 p.1], [], true⟩
def endP (st : PSt) : List S33 := closeF st.es st.txt st.opn
def parseF (s : ByteArray) : List S33 := endP ((runesOf s).foldl stepP ⟨[], [], false⟩)
theorem stepP_blank {es : List S33} {txt : List Int} {opn : Bool} {at_ : Nat} {r : Int} (h : isBlank r = true) : stepP ⟨es, txt, opn⟩ (at_, r) = ⟨closeF es txt opn, [], false⟩ := by
 unfold stepP; rw [if_pos h]
theorem stepP_num {es : List S33} {txt : List Int} {at_ : Nat} {r : Int} (h : ¬ isBlank r = true) (hn : isNum r = true) : stepP ⟨es, txt, true⟩ (at_, r) = ⟨es, txt ++ [r], true⟩ := by
 unfold stepP; rw [if_neg h, if_pos ⟨rfl, hn⟩]
theorem stepP_new {es : List S33} {txt : List Int} {opn : Bool} {at_ : Nat} {r : Int} (h : ¬ isBlank r = true) (hn : ¬ (opn = true ∧ isNum r = true)) : stepP ⟨es, txt, opn⟩ (at_, r) = ⟨closeF es txt opn ++ [newE r at_], [], true⟩ := by
 unfold stepP; rw [if_neg h, if_neg hn]
theorem closeF_length (es : List S33) (txt : List Int) (opn : Bool) : (closeF es txt opn).length = es.length := by
 unfold closeF; split <;> simp
theorem Vars.iter {w : World} {B bo bq bt bi : Nat} {vo : Value} {es : List S33} {opn : Bool} {gt ct pos : Nat} {txt : List Int} {s : ByteArray} (h : Vars w B bo bq bt vo es opn gt ct txt) (hi : w.heap[bi]? = some (.stringIter s pos)) (pos' : Nat) :
  Vars (w.iterAt bi s pos') B bo bq bt vo es opn gt ct txt := by
 have hne : ∀ k cells t, w.heap[k]? = some (.cells cells t (0, 0)) → k ≠ bi := fun k cells t hc e => by rw [e, hi] at hc; cases hc
 obtain ⟨cx, hx⟩ := h.text.blk
 refine ⟨(Lib.iterAt_other w bi _ s pos' (hne _ _ _ h.o)).trans h.o, (Lib.iterAt_other w bi _ s pos' (hne _ _ _ h.q)).trans h.q, (Lib.iterAt_other w bi _ s pos' (hne _ _ _ h.t)).trans h.t, h.bo, h.bq, h.bt, ?_, h.text.keep (Lib.iterAt_other w bi _ s pos' (hne _ _ _ hx))⟩
 refine Kd.S_mono (Kd.S_step (Kd.S_bound h.row) (fun k hk hlt => ?_)) (fun _ _ => trivial)
 obtain ⟨_, _, _, q, _, cells, hc⟩ := hk
 exact Lib.iterAt_other w bi _ s pos' (hne _ _ _ hc)
theorem close_any (w : World) (B bo bq bt : Nat) (vo : Value) (es : List S33) (opn : Bool) (gt ct : Nat) (txt : List Int) (hv : Vars w B bo bq bt vo es opn gt ct txt) (hne : opn = true → es ≠ []) (hml : es.length < 4294967296) (htx : txt.length < 1000000000) (hG : GG w) (hBw : B ≤ w.heap.size) :
  Calls Tryz.prog 51 #[.pointer (some ⟨bo, 0, none⟩), .pointer (some ⟨bq, 0, none⟩), .pointer (some ⟨bt, 0, none⟩)] w (ClosePost w B bo bq bt vo es opn gt ct txt) := by
 cases opn with
 | false =>
  obtain ⟨A, c, rfl⟩ := Kd.S_slice hv.row
  exact close_no w B bo bq bt A c es gt ct txt hv
 | true =>
  obtain ⟨m, hm⟩ : ∃ m, es.length = m + 1 := ⟨es.length - 1, by have := List.length_pos_iff.2 (hne rfl); omega⟩
  exact close_yes w B bo bq bt vo es gt ct m txt hv hm (by omega) htx hG hBw
structure Inv (w : World) (s : ByteArray) (wr : World) (pos fuel : Nat) (vo : Value) (st : PSt) (gt ct : Nat) : Prop where
 vars : Vars wr w.heap.size w.heap.size (w.heap.size + 1 + 1 + 1) (w.heap.size + 1 + 1) vo st.es st.opn gt ct st.txt
 it : wr.heap[w.heap.size + 1 + 1 + 1 + 1]? = some (.stringIter s pos)
 below : Below w.heap.size w wr
 fold : (runesFrom s fuel pos).foldl stepP st = (runesOf s).foldl stepP ⟨[], [], false⟩
 size : s.size ≤ pos + fuel
 esl : st.es.length ≤ pos
 txl : st.txt.length ≤ pos
 opn : st.opn = true → st.es ≠ []
 esS : st.es.length ≤ s.size
 txS : st.txt.length ≤ s.size
theorem Inv.start (w : World) (s : ByteArray) : Inv w s (((((w.alloc (.cells #[.slice none 0 0] 48)).alloc (.cells #[] 21)).alloc (.cells #[.slice (some ⟨w.heap.size + 1, 0, none⟩) 0 0] 140)).alloc (.cells #[.bool false] 4)).iter s 0) 0 s.size (.slice none 0 0) ⟨[], [], false⟩ (w.heap.size + 1) 0 := by
 obtain ⟨W, hW⟩ : ∃ W, W = ((((w.alloc (.cells #[.slice none 0 0] 48)).alloc (.cells #[] 21)).alloc (.cells #[.slice (some ⟨w.heap.size + 1, 0, none⟩) 0 0] 140)).alloc (.cells #[.bool false] 4)) := ⟨_, rfl⟩
 rw [← hW]
 have hsz : W.heap.size = w.heap.size + 1 + 1 + 1 + 1 := by rw [hW]; simp
 have hb : Below w.heap.size w W := by rw [hW]; exact below_alloc (below_alloc (below_alloc (below_alloc (Below.refl _ _) _) _) _) _
 have h0 : W.heap[w.heap.size]? = some (.cells #[.slice none 0 0] 48 (0, 0)) := by
  rw [hW, Below.heap_alloc _ _ _ (by simp; omega), Below.heap_alloc _ _ _ (by simp; omega), Below.heap_alloc _ _ _ (by simp)]; exact heap_alloc_new w _
 have h1 : W.heap[w.heap.size + 1]? = some (.cells #[] 21 (0, 0)) := by
  rw [hW, Below.heap_alloc _ _ _ (by simp; try omega), Below.heap_alloc _ _ _ (by simp)]
  have := heap_alloc_new (w.alloc (.cells #[.slice none 0 0] 48)) (.cells #[] 21)
  simpa using this
 have h2 : W.heap[w.heap.size + 1 + 1]? = some (.cells #[.slice (some ⟨w.heap.size + 1, 0, none⟩) 0 0] 140 (0, 0)) := by
  rw [hW, Below.heap_alloc _ _ _ (by simp)]
  have := heap_alloc_new ((w.alloc (.cells #[.slice none 0 0] 48)).alloc (.cells #[] 21)) (.cells #[.slice (some ⟨w.heap.size + 1, 0, none⟩) 0 0] 140)
  simpa using this
 have h3 : W.heap[w.heap.size + 1 + 1 + 1]? = some (.cells #[.bool false] 4 (0, 0)) := by
  rw [hW]
  have := heap_alloc_new (((w.alloc (.cells #[.slice none 0 0] 48)).alloc (.cells #[] 21)).alloc (.cells #[.slice (some ⟨w.heap.size + 1, 0, none⟩) 0 0] 140)) (.cells #[.bool false] 4)
  simpa using this
 have hv : Vars W w.heap.size w.heap.size (w.heap.size + 1 + 1 + 1) (w.heap.size + 1 + 1) (.slice none 0 0) [] false (w.heap.size + 1) 0 [] :=
  ⟨h0, h3, h2, Nat.le_refl _, by omega, by omega, Kd.S_nil _ _ _ _ _, ⟨by simp [nums], .inr ⟨w.heap.size + 1, 0, #[], rfl, by omega, h1, Nat.le_refl _, by simp, by simp, by simp [nums]⟩⟩⟩
 have hi := World.iter_heap W s 0
 rw [hsz] at hi
 refine ⟨hv.below ?_, hi, hb.trans (?_), rfl, by omega, by simp, by simp, by simp, by simp, by simp⟩
 ·exact below_alloc (Below.refl _ _) _
 ·exact (Below.refl _ W).alloc (by omega) _
set_option maxHeartbeats 16000000 in
set_option maxRecDepth 100000 in
theorem parse_walk (s : ByteArray) (w : World) (hs : s.size ≤ 100000000) (hG : GG w) :
  Calls Tryz.prog 19 #[.string s] w fun e w' => ∃ v0_ : Value, e = .returned (v0_) ∧ Kd.S k33 39 w' w.heap.size (fun _ => True) v0_ (parseF s) ∧ Below w.heap.size w w' := by
 have hmf : ∀ (fn : Fn) (first cap : Array Value) (w : World), (Instr.makeFunc fn first cap).run Tryz.prog w = .ok (.func fn first cap) w := fun _ _ _ _ => rfl
 have HG := Lib.hid hG
 clear hG
 go_enter Tryz.func19, Tryz.ntmps19
 go_wp2_with fail
 go_loopw [] (fun wr => ∃ pos fuel vo st gt ct, Inv w s wr pos fuel vo st gt ct) (fun wr => s.size - wr.iterPos (w.heap.size + 1 + 1 + 1 + 1))
 case atStart => exact ⟨0, s.size, _, _, _, _, Inv.start w s⟩
 case round =>
  obtain ⟨pos, fuel, vo, st, gt, ct, hI⟩ := hrel
  have hit := hI.it
  have hGr := GG_at HG.out hI.below
  have HGr := Lib.hid hGr
  have hszr : w.heap.size + 1 + 1 + 1 + 1 < wr.heap.size := (Array.getElem?_eq_some_iff.1 hit).1
  clear hGr
  by_cases hp : pos < s.size
  ·have hnx : ∀ ty, (Instr.next (.pointer (some ⟨w.heap.size + 1 + 1 + 1 + 1, 0, none⟩)) true ty).run Tryz.prog wr = _ := fun ty => Lib.run_next_any_at wr (w.heap.size + 1 + 1 + 1 + 1) s pos ty hit hp
   have hwd := width_pos s pos hp
   have hd1 := decode_le s pos
   obtain ⟨f, rfl⟩ : ∃ f, fuel = f + 1 := ⟨fuel - 1, by have := hI.size; omega⟩
   have HNX := Lib.hid hnx
   have hI2 : Inv w s (wr.iterAt (w.heap.size + 1 + 1 + 1 + 1) s (pos + (Utf8.decode s pos).2)) (pos + (Utf8.decode s pos).2) f vo (stepP st (pos, ((Utf8.decode s pos).1 : Int))) gt ct → True := fun _ => trivial
   have hv2 := hI.vars.iter hit (pos + (Utf8.decode s pos).2)
   have hit2 := Lib.iterAt_heap wr _ s pos (pos + (Utf8.decode s pos).2) hit
   have hbw2 := Lib.below_iterAt hI.below (k := w.heap.size + 1 + 1 + 1 + 1) (by omega) s (pos + (Utf8.decode s pos).2)
   have hfold : (runesFrom s f (pos + (Utf8.decode s pos).2)).foldl stepP (stepP st (pos, ((Utf8.decode s pos).1 : Int))) = (runesOf s).foldl stepP ⟨[], [], false⟩ := by
    rw [← hI.fold, runesFrom_step _ _ _ hp]; rfl
   have hsz := hI.size
   have hesl := hI.esl
   have htxl := hI.txl
   have hopn := hI.opn
   clear hI2 hI
   obtain ⟨wd, hwdd⟩ : ∃ wd, wd = (Utf8.decode s pos).2 := ⟨_, rfl⟩
   obtain ⟨r, hr⟩ : ∃ r : Int, r = ((Utf8.decode s pos).1 : Int) := ⟨_, rfl⟩
   rw [← hwdd] at hnx hv2 hit2 hbw2 hfold hwd
   rw [← hr] at hnx hfold
   obtain ⟨w2, hw2⟩ : ∃ w2, w2 = wr.iterAt (w.heap.size + 1 + 1 + 1 + 1) s (pos + wd) := ⟨_, rfl⟩
   rw [← hw2] at hnx hv2 hit2 hbw2
   have hG2 := GG_at HG.out hbw2
   have hsz2 : w.heap.size + 1 + 1 + 1 + 1 < w2.heap.size := (Array.getElem?_eq_some_iff.1 hit2).1
   obtain ⟨es, txt, opn⟩ := st
   have HV2 := Lib.hid hv2
   have HIT2 := Lib.hid hit2
   have HIT := Lib.hid hit
   have HBW2 := Lib.hid hbw2
   have HF := Lib.hid hfold
   have HOPN := Lib.hid hopn
   have HG2 := Lib.hid hG2
   have hposle : pos ≤ 100000000 := by omega
   clear hv2 hit2 hbw2 hfold hopn hG2 hwdd hr hw2 hit HNX hd1 HGr
   have hesl' : es.length ≤ pos := hesl
   have htxl' : txt.length ≤ pos := htxl
   clear hesl htxl
   go_wp2_with fail
   refine (of_walk blanks_ r _ (by decide)).mono ?_
   rintro e w3 ⟨rfl, hb3⟩
   have hs3 := hb3.size
   have HV3 := Lib.hid (HV2.out.below hb3)
   have HIT3 : Hid (w3.heap[w.heap.size + 1 + 1 + 1 + 1]? = some (.stringIter s (pos + wd))) := Lib.hid ((hb3.block _ hsz2).trans HIT2.out)
   have HBW3 := Lib.hid (HBW2.out.trans (hb3.mono (by omega)))
   have HG3 := Lib.hid (GG_at HG2.out hb3)
   clear hb3 HV2 HIT2 HBW2 HG2
   by_cases hbl : ofB blanks_ r = true
   ·rw [hbl]
    have HBL := Lib.hid hbl
    clear hbl
    go_wp2_with fail
    refine (close_any _ _ _ _ _ _ _ _ _ _ _ HV3.out HOPN.out (by omega) (by omega) HG3.out (by omega)).mono ?_
    rintro e w4 ⟨rfl, hv4, hb4, hk4⟩
    have hs4 := hb4.size
    have HV4 := Lib.hid hv4
    have HB4 := Lib.hid hb4
    have HK4 := Lib.hid hk4
    clear hv4 hb4 hk4
    go_wp2_with fail
    have hit4 : w4.heap[w.heap.size + 1 + 1 + 1 + 1]? = some (.stringIter s (pos + wd)) := (HK4.out.2 _ (by omega) (by
     rintro (h | h | h)
     ·omega
     ·omega
     ·obtain ⟨cells, hc⟩ := Kd.S_typed HV3.out.row _ h.symm
      rw [HIT3.out] at hc
      cases hc)).trans HIT3.out
    have HIT4 := Lib.hid hit4
    clear hit4
    go_roundw
    case rel =>
     exact ⟨pos + wd, f, vo, ⟨closeF es txt opn, [], false⟩, gt, ct, HV4.out, HIT4.out, HBW3.out.trans HB4.out, by rw [← stepP_blank HBL.out]; exact HF.out, by omega, by show (closeF es txt opn).length ≤ _; rw [closeF_length]; omega, by simp, by simp, by show (closeF es txt opn).length ≤ _; rw [closeF_length]; omega, by simp⟩
    case measure =>
     simp only [World.iterPos, HIT4.out, HIT.out]
     omega
   ·have hbl' : ofB blanks_ r = false := by simpa using hbl
    rw [hbl']
    have HBL : Hid (¬ isBlank r = true) := Lib.hid hbl
    clear hbl hbl'
    have qc3 : w3.cell? ⟨w.heap.size + 1 + 1 + 1, 0, none⟩ = some (.bool opn) := by rw [Lib.cell_of_heap HV3.out.q]; rfl
    cases opn with
    | false =>
     have HNN : Hid (¬ (false = true ∧ isNum r = true)) := Lib.hid (by simp)
     go_wp2_with fail
     refine (close_any _ _ _ _ _ _ _ _ _ _ _ HV3.out (fun h => by cases h) (by omega) (by omega) HG3.out (by omega)).mono ?_
     rintro e w4 ⟨rfl, hv4, hb4, hk4⟩
     have hs4 := hb4.size
     have HBW4 := Lib.hid (HBW3.out.trans hb4)
     have hit4 : w4.heap[w.heap.size + 1 + 1 + 1 + 1]? = some (.stringIter s (pos + wd)) := (hk4.2 _ (by omega) (by
      rintro (h | h | h)
      ·omega
      ·omega
      ·obtain ⟨cells, hc⟩ := Kd.S_typed HV3.out.row _ h.symm
       rw [HIT3.out] at hc
       cases hc)).trans HIT3.out
     have HIT4 := Lib.hid hit4
     have HV4 := Lib.hid hv4
     have c4 : w4.cell? ⟨w.heap.size, 0, none⟩ = some vo := by rw [Lib.cell_of_heap hv4.o]; rfl
     obtain ⟨A4, k4, hvo4⟩ := Kd.S_slice hv4.row
     rw [hvo4] at c4
     have HVO := Lib.hid hvo4
     have hlen4 : (closeF es txt false).length = es.length := closeF_length _ _ _
     have HL4 := Lib.hid hlen4
     clear hv4 hb4 hk4 hit4 hvo4 hlen4
     have hf4 : w4.frozen? ⟨w.heap.size, 0, none⟩ = false := Lib.frozen_of_heap HV4.out.o 0
     have hq4 : w4.cell? ⟨w.heap.size + 1 + 1 + 1, 0, none⟩ = some (.bool false) := by rw [Lib.cell_of_heap HV4.out.q]; rfl
     have hfq4 : w4.frozen? ⟨w.heap.size + 1 + 1 + 1, 0, none⟩ = false := Lib.frozen_of_heap HV4.out.q 0
     have hsz4 : w.heap.size + 1 + 1 + 1 + 1 < w4.heap.size := (Array.getElem?_eq_some_iff.1 HIT4.out).1
     go_wp2_with (at_builtin; refine Kd.S_append k33 (w0 := w) (W := w4) w.heap.size rfl _ _ 48 39 _ 48 rfl Tryz.underlying48 info39 rfl (by decide) (by decide) (.slice A4 (closeF es txt false).length k4) (closeF es txt false) (newE r pos) [.int .i32 r, .slice none 0 0, .bool false, .int .i64 (pos : Int)] (fun _ => True) (fun _ => False) rfl rfl (k33_mkM w4 w.heap.size _ (newE r pos) (Kd.R_nil _ _ _ _ _)) (fun _ h => h.elim) (fun _ _ => trivial) ?hS HBW4.out ?hb ?hl ?_)
     case hS => rw [← HVO.out]; exact Kd.S_mono HV4.out.row (fun _ _ => ⟨trivial, fun h => h⟩)
     case hb => omega
     case hl => have := HL4.out; omega
     intro v5 w5 hS5 hb5 hg5 hat5
     have ho4 := HV4.out.o
     have hob : ∀ (k : Nat) (cells : Array Value) (t : TypeId), w4.heap[k]? = some (.cells cells t (0, 0)) → t ≠ 39 → w5.heap[k]? = w4.heap[k]? := fun k cells t hc ht => hg5.block k (blk_lt hc) (fun e => by
      obtain ⟨cells', hc'⟩ := Kd.S_typed HV4.out.row k (by rw [HVO.out]; exact e.symm)
      rw [hc] at hc'
      cases hc'
      exact ht rfl)
     have o5 : w5.heap[w.heap.size]? = some (.cells #[vo] 48 (0, 0)) := (hob _ _ _ ho4 (by decide)).trans ho4
     have q5 : w5.heap[w.heap.size + 1 + 1 + 1]? = some (.cells #[.bool false] 4 (0, 0)) := (hob _ _ _ HV4.out.q (by decide)).trans HV4.out.q
     have t5 : w5.heap[w.heap.size + 1 + 1]? = some (.cells #[.slice (some ⟨gt, 0, none⟩) 0 ct] 140 (0, 0)) := (hob _ _ _ HV4.out.t (by decide)).trans HV4.out.t
     have x5 : TextRow w5 w.heap.size gt ct [] := by
      obtain ⟨cx, hx⟩ := HV4.out.text.blk
      exact HV4.out.text.keep (hob _ _ _ hx (by decide))
     have hit5 : w5.heap[w.heap.size + 1 + 1 + 1 + 1]? = some (.stringIter s (pos + wd)) := (hg5.block _ hsz4 (fun e => by
      obtain ⟨cells', hc'⟩ := Kd.S_typed HV4.out.row _ (by rw [HVO.out]; exact e.symm)
      rw [HIT4.out] at hc'
      cases hc')).trans HIT4.out
     obtain ⟨A5, k5, hv5⟩ := Kd.S_slice hS5
     obtain ⟨n5, hn5⟩ : ∃ n5, n5 = (closeF es txt false ++ [newE r pos]).length := ⟨_, rfl⟩
     rw [← hn5] at hv5
     subst hv5
     clear hn5
     have c5 : w5.cell? ⟨w.heap.size, 0, none⟩ = some vo := by rw [Lib.cell_of_heap o5]; rfl
     have f5 : w5.frozen? ⟨w.heap.size, 0, none⟩ = false := Lib.frozen_of_heap o5 0
     have g5 : w5.frozen? ⟨w.heap.size + 1 + 1 + 1, 0, none⟩ = false := Lib.frozen_of_heap q5 0
     have hne5 : (⟨w.heap.size, 0, none⟩ : Addr) ≠ ⟨w.heap.size + 1 + 1 + 1, 0, none⟩ := fun e => by injection e with e; omega
     have d5 : (w5.setCell ⟨w.heap.size, 0, none⟩ (.slice A5 n5 k5)).cell? ⟨w.heap.size + 1 + 1 + 1, 0, none⟩ = some (.bool false) := by
      rw [World.cell?_setCell_other _ _ _ _ hne5, Lib.cell_of_heap q5]; rfl
     have HO5 := Lib.hid o5
     have HQ5 := Lib.hid q5
     have HT5 := Lib.hid t5
     have HX5 := Lib.hid x5
     have HIT5 := Lib.hid hit5
     have HS5 := Lib.hid hS5
     have HB5 := Lib.hid hb5
     clear o5 q5 t5 x5 hit5 hS5 hb5 hob hat5 hg5 ho4 hne5 c4 hf4 hq4 hfq4
     go_wp2_with fail
     have hq6 : (w5.setCell ⟨w.heap.size, 0, none⟩ (.slice A5 n5 k5)).heap[w.heap.size + 1 + 1 + 1]? = some (.cells #[.bool false] 4 (0, 0)) := by
      rw [Below.heap_setCell _ _ _ _ (by show _ ≠ w.heap.size; omega)]; exact HQ5.out
     have hit6 : ((w5.setCell ⟨w.heap.size, 0, none⟩ (.slice A5 n5 k5)).setCell ⟨w.heap.size + 1 + 1 + 1, 0, none⟩ (.bool true)).heap[w.heap.size + 1 + 1 + 1 + 1]? = some (.stringIter s (pos + wd)) := by
      rw [Below.heap_setCell _ _ _ _ (by show _ ≠ w.heap.size + 1 + 1 + 1; omega), Below.heap_setCell _ _ _ _ (by show _ ≠ w.heap.size; omega)]; exact HIT5.out
     go_roundw
     case rel =>
      refine ⟨pos + wd, f, (.slice A5 n5 k5), ⟨closeF es txt false ++ [newE r pos], [], true⟩, gt, ct, ?_, hit6, ?_, ?_, by omega, ?_, by simp, by simp, ?_, by simp⟩
      ·obtain ⟨cx, hx⟩ := HX5.out.blk
       have n1 : gt ≠ w.heap.size := blk_ne hx HO5.out (by decide)
       have n2 : gt ≠ w.heap.size + 1 + 1 + 1 := blk_ne hx HQ5.out (by decide)
       refine ⟨?_, blk_set hq6 0 _, ?_, Nat.le_refl _, by omega, by omega, ?_, ?_⟩
       ·rw [Below.heap_setCell _ _ _ _ (by show _ ≠ w.heap.size + 1 + 1 + 1; omega)]; exact blk_set HO5.out 0 _
       ·rw [Below.heap_setCell _ _ _ _ (by show _ ≠ w.heap.size + 1 + 1 + 1; omega), Below.heap_setCell _ _ _ _ (by show _ ≠ w.heap.size; omega)]; exact HT5.out
       ·exact Kd.S_set (Kd.S_set HS5.out HO5.out (by decide) 0 _) hq6 (by decide) 0 _
       ·exact (HX5.out.keep (w' := w5.setCell ⟨w.heap.size, 0, none⟩ (.slice A5 n5 k5)) (Below.heap_setCell _ _ _ _ n1)).keep (Below.heap_setCell _ _ _ _ n2)
      ·exact (HB5.out.setCell (p := ⟨w.heap.size, 0, none⟩) (Nat.le_refl _) _).setCell (p := ⟨w.heap.size + 1 + 1 + 1, 0, none⟩) (by show _ ≤ w.heap.size + 1 + 1 + 1; omega) _
      ·rw [← stepP_new HBL.out (fun h => by first | exact HNN.out h | exact HNN.out ⟨trivial, h.2⟩)]; exact HF.out
      ·show (closeF es txt false ++ [_]).length ≤ _
       rw [List.length_append, HL4.out]; show es.length + 1 ≤ _; omega
      ·show (closeF es txt false ++ [_]).length ≤ _
       rw [List.length_append, HL4.out]; show es.length + 1 ≤ _; omega
     case measure =>
      simp only [World.iterPos, hit6, HIT.out]
      omega
    | true =>
     go_wp2_with fail
     refine (of_walk digs_ r _ (by decide)).mono ?_
     rintro e w3' ⟨rfl, hb3'⟩
     have hs3' := hb3'.size
     have hv3' := HV3.out.below hb3'
     have hit3' := (hb3'.block _ (show w.heap.size + 1 + 1 + 1 + 1 < w3.heap.size from by omega)).trans HIT3.out
     have hbw3' := HBW3.out.trans (hb3'.mono (by omega))
     have hg3' := GG_at HG3.out hb3'
     clear hb3' HV3 HIT3 HBW3 HG3 qc3
     have HV3 := Lib.hid hv3'
     have HIT3 := Lib.hid hit3'
     have HBW3 := Lib.hid hbw3'
     have HG3 := Lib.hid hg3'
     clear hv3' hit3' hbw3' hg3'
     by_cases hnn : ofB digs_ r = true
     ·rw [hnn]
      have HNN : Hid (isNum r = true) := Lib.hid hnn
      clear hnn
      have c3 : w3'.cell? ⟨w.heap.size + 1 + 1, 0, none⟩ = some (.slice (some ⟨gt, 0, none⟩) txt.length ct) := by rw [Lib.cell_of_heap HV3.out.t]; rfl
      have f3 : w3'.frozen? ⟨w.heap.size + 1 + 1, 0, none⟩ = false := Lib.frozen_of_heap HV3.out.t 0
      obtain ⟨i0, hi, hz0, hz1, hz2⟩ := info_parts info21
      have hown3 : w3'.ownsRow w.heap.size 21 1 (.slice (some ⟨gt, 0, none⟩) txt.length ct) txt.length (nums .i32 txt) := HV3.out.text
      go_wp2_with (at_builtin; refine wpList_append_own _ rfl _ _ 140 rfl w.heap.size 21 i0 (.int .i32 0) 1 4 Tryz.underlying140 hi hz0 hz1 hz2 rfl (by decide) _ _ _ rfl (hown3.alloc _) ⟨w3'.heap.size, 0, none⟩ 1 1 [.int .i32 r] rfl rfl ?c1 ?c2 ?c3 ?c4 ?c5 ?_)
      case c1 =>
       intro j y hj
       match j, hj with
       | 0, hj => simp at hj; subst hj; exact (World.cell?_alloc_new _ _ _ _).trans (by simp)
       | j + 1, hj => simp at hj
      case c2 => intro y hy; simp at hy; subst hy; rfl
      case c3 => unfold maxLen; omega
      case c4 => omega
      case c5 => simp; omega
      intro v' w4 hown4 hgrow _
      obtain ⟨g4, k4, rfl⟩ : ∃ g4 k4, v' = .slice (some ⟨g4, 0, none⟩) (txt.length + 1) k4 := by
       rcases hown4.2 with ⟨_, h0⟩ | ⟨g, cap, cur, hv, _⟩
       ·omega
       ·exact ⟨_, _, hv⟩
      have hgx := HV3.out.text.blk
      have hob : ∀ (k : Nat) (o : Obj), w3'.heap[k]? = some o → k ≠ gt → w4.heap[k]? = some o := fun k o hc hk => (hgrow.block k (by have := blk_lt hc; simp; omega) (fun e => hk (by simpa [Value.ownBlock] using e))).trans ((Below.heap_alloc _ _ _ (blk_lt hc)).trans hc)
      have hbt : ∀ (k : Nat) (cells : Array Value) (t : TypeId), w3'.heap[k]? = some (.cells cells t (0, 0)) → t ≠ 21 → w4.heap[k]? = some (.cells cells t (0, 0)) := fun k cells t hc ht => hob k _ hc (fun e => by
       obtain ⟨cx, hx⟩ := hgx
       subst e
       rw [hc] at hx
       cases hx
       exact ht rfl)
      have o4 := hbt _ _ _ HV3.out.o (by decide)
      have q4 := hbt _ _ _ HV3.out.q (by decide)
      have t4 := hbt _ _ _ HV3.out.t (by decide)
      have hit4 : w4.heap[w.heap.size + 1 + 1 + 1 + 1]? = some (.stringIter s (pos + wd)) := hob _ _ HIT3.out (fun e => by
       obtain ⟨cx, hx⟩ := hgx
       rw [← e, HIT3.out] at hx
       cases hx)
      have hS4 : Kd.S k33 39 w4 w.heap.size (fun _ => True) vo es := by
       obtain ⟨cx, hx⟩ := hgx
       refine Kd.S_mono (Kd.S_step (Kd.S_types HV3.out.row hx (by decide)) (fun k hk hlt => ?_)) (fun _ _ => trivial)
       exact (hgrow.block k (by simp; omega) (fun e => hk.2 (by simpa [Value.ownBlock] using e))).trans (Below.heap_alloc _ _ _ hlt)
      have hb4 : Below w.heap.size w w4 := (HBW3.out.alloc (by omega) _).grown hgrow (by simp; omega) (fun k hk => (hown3.lt k hk).1)
      have c4 : w4.cell? ⟨w.heap.size + 1 + 1, 0, none⟩ = some (.slice (some ⟨gt, 0, none⟩) txt.length ct) := by rw [Lib.cell_of_heap t4]; rfl
      have f4 : w4.frozen? ⟨w.heap.size + 1 + 1, 0, none⟩ = false := Lib.frozen_of_heap t4 0
      have hx4 : TextRow w4 w.heap.size g4 k4 (txt ++ [r]) := by
       have e1 : (txt ++ [r]).length = txt.length + 1 := by simp
       unfold TextRow
       rw [e1]
       have e2 : nums .i32 (txt ++ [r]) = nums .i32 txt ++ [.int .i32 r] := by rw [nums_append]; rfl
       rw [e2]
       exact hown4
      have HO4 := Lib.hid o4
      have HQ4 := Lib.hid q4
      have HT4 := Lib.hid t4
      have HIT4 := Lib.hid hit4
      have HS4 := Lib.hid hS4
      have HB4 := Lib.hid hb4
      have HX4 := Lib.hid hx4
      clear o4 q4 t4 hit4 hS4 hb4 hx4 hob hbt hgx hgrow hown4 hown3 c3 f3 hi hz0 hz1 hz2
      go_wp2_with fail
      have hit5 : (w4.setCell ⟨w.heap.size + 1 + 1, 0, none⟩ (.slice (some ⟨g4, 0, none⟩) (txt.length + 1) k4)).heap[w.heap.size + 1 + 1 + 1 + 1]? = some (.stringIter s (pos + wd)) := by
       rw [Below.heap_setCell _ _ _ _ (by show _ ≠ w.heap.size + 1 + 1; omega)]; exact HIT4.out
      go_roundw
      case rel =>
       refine ⟨pos + wd, f, vo, ⟨es, txt ++ [r], true⟩, g4, k4, ?_, hit5, ?_, ?_, by omega, by show es.length ≤ _; omega, by show (txt ++ [r]).length ≤ _; rw [List.length_append]; show txt.length + 1 ≤ _; omega, fun _ => HOPN.out trivial, by show es.length ≤ _; omega, by show (txt ++ [r]).length ≤ _; rw [List.length_append]; show txt.length + 1 ≤ _; omega⟩
       ·obtain ⟨cx, hx⟩ := HX4.out.blk
        have n1 : g4 ≠ w.heap.size + 1 + 1 := blk_ne hx HT4.out (by decide)
        refine ⟨?_, ?_, ?_, Nat.le_refl _, by omega, by omega, ?_, ?_⟩
        ·rw [Below.heap_setCell _ _ _ _ (by show _ ≠ w.heap.size + 1 + 1; omega)]; exact HO4.out
        ·rw [Below.heap_setCell _ _ _ _ (by show _ ≠ w.heap.size + 1 + 1; omega)]; exact HQ4.out
        ·have := blk_set HT4.out 0 (.slice (some ⟨g4, 0, none⟩) (txt.length + 1) k4)
         have e1 : (txt ++ [r]).length = txt.length + 1 := by simp
         rw [e1]
         exact this
        ·exact Kd.S_set HS4.out HT4.out (by decide) 0 _
        ·exact HX4.out.keep (Below.heap_setCell _ _ _ _ n1)
       ·exact HB4.out.setCell (p := ⟨w.heap.size + 1 + 1, 0, none⟩) (by show _ ≤ w.heap.size + 1 + 1; omega) _
       ·rw [← stepP_num HBL.out HNN.out]; exact HF.out
      case measure =>
       simp only [World.iterPos, hit5, HIT.out]
       omega
     ·have hnn' : ofB digs_ r = false := by simpa using hnn
      rw [hnn']
      have HNN : Hid (¬ (true = true ∧ isNum r = true)) := Lib.hid (fun h => hnn h.2)
      clear hnn hnn'
      go_wp2_with fail
      refine (close_any _ _ _ _ _ _ _ _ _ _ _ HV3.out (fun _ => HOPN.out trivial) (by omega) (by omega) HG3.out (by omega)).mono ?_
      rintro e w4 ⟨rfl, hv4, hb4, hk4⟩
      have hs4 := hb4.size
      have HBW4 := Lib.hid (HBW3.out.trans hb4)
      have hit4 : w4.heap[w.heap.size + 1 + 1 + 1 + 1]? = some (.stringIter s (pos + wd)) := (hk4.2 _ (by omega) (by
       rintro (h | h | h)
       ·omega
       ·omega
       ·obtain ⟨cells, hc⟩ := Kd.S_typed HV3.out.row _ h.symm
        rw [HIT3.out] at hc
        cases hc)).trans HIT3.out
      have HIT4 := Lib.hid hit4
      have HV4 := Lib.hid hv4
      have c4 : w4.cell? ⟨w.heap.size, 0, none⟩ = some vo := by rw [Lib.cell_of_heap hv4.o]; rfl
      obtain ⟨A4, k4, hvo4⟩ := Kd.S_slice hv4.row
      rw [hvo4] at c4
      have HVO := Lib.hid hvo4
      have hlen4 : (closeF es txt true).length = es.length := closeF_length _ _ _
      have HL4 := Lib.hid hlen4
      clear hv4 hb4 hk4 hit4 hvo4 hlen4
      have hf4 : w4.frozen? ⟨w.heap.size, 0, none⟩ = false := Lib.frozen_of_heap HV4.out.o 0
      have hq4 : w4.cell? ⟨w.heap.size + 1 + 1 + 1, 0, none⟩ = some (.bool false) := by rw [Lib.cell_of_heap HV4.out.q]; rfl
      have hfq4 : w4.frozen? ⟨w.heap.size + 1 + 1 + 1, 0, none⟩ = false := Lib.frozen_of_heap HV4.out.q 0
      have hsz4 : w.heap.size + 1 + 1 + 1 + 1 < w4.heap.size := (Array.getElem?_eq_some_iff.1 HIT4.out).1
      go_wp2_with (at_builtin; refine Kd.S_append k33 (w0 := w) (W := w4) w.heap.size rfl _ _ 48 39 _ 48 rfl Tryz.underlying48 info39 rfl (by decide) (by decide) (.slice A4 (closeF es txt true).length k4) (closeF es txt true) (newE r pos) [.int .i32 r, .slice none 0 0, .bool false, .int .i64 (pos : Int)] (fun _ => True) (fun _ => False) rfl rfl (k33_mkM w4 w.heap.size _ (newE r pos) (Kd.R_nil _ _ _ _ _)) (fun _ h => h.elim) (fun _ _ => trivial) ?hS HBW4.out ?hb ?hl ?_)
      case hS => rw [← HVO.out]; exact Kd.S_mono HV4.out.row (fun _ _ => ⟨trivial, fun h => h⟩)
      case hb => omega
      case hl => have := HL4.out; omega
      intro v5 w5 hS5 hb5 hg5 hat5
      have ho4 := HV4.out.o
      have hob : ∀ (k : Nat) (cells : Array Value) (t : TypeId), w4.heap[k]? = some (.cells cells t (0, 0)) → t ≠ 39 → w5.heap[k]? = w4.heap[k]? := fun k cells t hc ht => hg5.block k (blk_lt hc) (fun e => by
       obtain ⟨cells', hc'⟩ := Kd.S_typed HV4.out.row k (by rw [HVO.out]; exact e.symm)
       rw [hc] at hc'
       cases hc'
       exact ht rfl)
      have o5 : w5.heap[w.heap.size]? = some (.cells #[vo] 48 (0, 0)) := (hob _ _ _ ho4 (by decide)).trans ho4
      have q5 : w5.heap[w.heap.size + 1 + 1 + 1]? = some (.cells #[.bool false] 4 (0, 0)) := (hob _ _ _ HV4.out.q (by decide)).trans HV4.out.q
      have t5 : w5.heap[w.heap.size + 1 + 1]? = some (.cells #[.slice (some ⟨gt, 0, none⟩) 0 ct] 140 (0, 0)) := (hob _ _ _ HV4.out.t (by decide)).trans HV4.out.t
      have x5 : TextRow w5 w.heap.size gt ct [] := by
       obtain ⟨cx, hx⟩ := HV4.out.text.blk
       exact HV4.out.text.keep (hob _ _ _ hx (by decide))
      have hit5 : w5.heap[w.heap.size + 1 + 1 + 1 + 1]? = some (.stringIter s (pos + wd)) := (hg5.block _ hsz4 (fun e => by
       obtain ⟨cells', hc'⟩ := Kd.S_typed HV4.out.row _ (by rw [HVO.out]; exact e.symm)
       rw [HIT4.out] at hc'
       cases hc')).trans HIT4.out
      obtain ⟨A5, k5, hv5⟩ := Kd.S_slice hS5
      obtain ⟨n5, hn5⟩ : ∃ n5, n5 = (closeF es txt true ++ [newE r pos]).length := ⟨_, rfl⟩
      rw [← hn5] at hv5
      subst hv5
      clear hn5
      have c5 : w5.cell? ⟨w.heap.size, 0, none⟩ = some vo := by rw [Lib.cell_of_heap o5]; rfl
      have f5 : w5.frozen? ⟨w.heap.size, 0, none⟩ = false := Lib.frozen_of_heap o5 0
      have g5 : w5.frozen? ⟨w.heap.size + 1 + 1 + 1, 0, none⟩ = false := Lib.frozen_of_heap q5 0
      have hne5 : (⟨w.heap.size, 0, none⟩ : Addr) ≠ ⟨w.heap.size + 1 + 1 + 1, 0, none⟩ := fun e => by injection e with e; omega
      have d5 : (w5.setCell ⟨w.heap.size, 0, none⟩ (.slice A5 n5 k5)).cell? ⟨w.heap.size + 1 + 1 + 1, 0, none⟩ = some (.bool false) := by
       rw [World.cell?_setCell_other _ _ _ _ hne5, Lib.cell_of_heap q5]; rfl
      have HO5 := Lib.hid o5
      have HQ5 := Lib.hid q5
      have HT5 := Lib.hid t5
      have HX5 := Lib.hid x5
      have HIT5 := Lib.hid hit5
      have HS5 := Lib.hid hS5
      have HB5 := Lib.hid hb5
      clear o5 q5 t5 x5 hit5 hS5 hb5 hob hat5 hg5 ho4 hne5 c4 hf4 hq4 hfq4
      go_wp2_with fail
      have hq6 : (w5.setCell ⟨w.heap.size, 0, none⟩ (.slice A5 n5 k5)).heap[w.heap.size + 1 + 1 + 1]? = some (.cells #[.bool false] 4 (0, 0)) := by
       rw [Below.heap_setCell _ _ _ _ (by show _ ≠ w.heap.size; omega)]; exact HQ5.out
      have hit6 : ((w5.setCell ⟨w.heap.size, 0, none⟩ (.slice A5 n5 k5)).setCell ⟨w.heap.size + 1 + 1 + 1, 0, none⟩ (.bool true)).heap[w.heap.size + 1 + 1 + 1 + 1]? = some (.stringIter s (pos + wd)) := by
       rw [Below.heap_setCell _ _ _ _ (by show _ ≠ w.heap.size + 1 + 1 + 1; omega), Below.heap_setCell _ _ _ _ (by show _ ≠ w.heap.size; omega)]; exact HIT5.out
      go_roundw
      case rel =>
       refine ⟨pos + wd, f, (.slice A5 n5 k5), ⟨closeF es txt true ++ [newE r pos], [], true⟩, gt, ct, ?_, hit6, ?_, ?_, by omega, ?_, by simp, by simp, ?_, by simp⟩
       ·obtain ⟨cx, hx⟩ := HX5.out.blk
        have n1 : gt ≠ w.heap.size := blk_ne hx HO5.out (by decide)
        have n2 : gt ≠ w.heap.size + 1 + 1 + 1 := blk_ne hx HQ5.out (by decide)
        refine ⟨?_, blk_set hq6 0 _, ?_, Nat.le_refl _, by omega, by omega, ?_, ?_⟩
        ·rw [Below.heap_setCell _ _ _ _ (by show _ ≠ w.heap.size + 1 + 1 + 1; omega)]; exact blk_set HO5.out 0 _
        ·rw [Below.heap_setCell _ _ _ _ (by show _ ≠ w.heap.size + 1 + 1 + 1; omega), Below.heap_setCell _ _ _ _ (by show _ ≠ w.heap.size; omega)]; exact HT5.out
        ·exact Kd.S_set (Kd.S_set HS5.out HO5.out (by decide) 0 _) hq6 (by decide) 0 _
        ·exact (HX5.out.keep (w' := w5.setCell ⟨w.heap.size, 0, none⟩ (.slice A5 n5 k5)) (Below.heap_setCell _ _ _ _ n1)).keep (Below.heap_setCell _ _ _ _ n2)
       ·exact (HB5.out.setCell (p := ⟨w.heap.size, 0, none⟩) (Nat.le_refl _) _).setCell (p := ⟨w.heap.size + 1 + 1 + 1, 0, none⟩) (by show _ ≤ w.heap.size + 1 + 1 + 1; omega) _
       ·rw [← stepP_new HBL.out (fun h => by first | exact HNN.out h | exact HNN.out ⟨trivial, h.2⟩)]; exact HF.out
       ·show (closeF es txt true ++ [_]).length ≤ _
        rw [List.length_append, HL4.out]; show es.length + 1 ≤ _; omega
       ·show (closeF es txt true ++ [_]).length ≤ _
        rw [List.length_append, HL4.out]; show es.length + 1 ≤ _; omega
      case measure =>
       simp only [World.iterPos, hit6, HIT.out]
       omega
  ·have hnx : ∀ ty, (Instr.next (.pointer (some ⟨w.heap.size + 1 + 1 + 1 + 1, 0, none⟩)) true ty).run Tryz.prog wr = _ := fun ty => Lib.run_next_end_at wr (w.heap.size + 1 + 1 + 1 + 1) s pos ty hit hp
   have HI := Lib.hid hI
   have hfin : parseF s = closeF st.es st.txt st.opn := by
    unfold parseF endP
    rw [← hI.fold, runesFrom_end _ _ _ hp]
    rfl
   have HFIN := Lib.hid hfin
   have hlen1 : st.es.length < 4294967296 ∧ st.txt.length < 1000000000 := by
    have h1 := hI.esS
    have h2 := hI.txS
    omega
   clear hI hit hfin
   go_wp2_with fail
   refine (close_any _ _ _ _ _ _ _ _ _ _ _ HI.out.vars HI.out.opn hlen1.1 hlen1.2 HGr.out (by omega)).mono ?_
   rintro e w4 ⟨rfl, hv4, hb4, hk4⟩
   obtain ⟨A4, k4, hvo4⟩ := Kd.S_slice hv4.row
   have c4 : w4.cell? ⟨w.heap.size, 0, none⟩ = some vo := by rw [Lib.cell_of_heap hv4.o]; rfl
   rw [hvo4] at c4
   have HV4 := Lib.hid hv4
   have HVO := Lib.hid hvo4
   have HB4 := Lib.hid hb4
   clear hv4 hvo4 hb4 hk4
   go_wp2_with fail
   go_ret
   exact ⟨_, rfl, by rw [HFIN.out, ← HVO.out]; exact HV4.out.row, HI.out.below.trans HB4.out⟩
end Go.Proofs.YtgdoeoackhfikaaGreatDoor

namespace Go.Proofs.YtgdoeoackhfikaaGreatDoor.G
set_option linter.unusedVariables false
set_option linter.unusedSimpArgs false
open Go.RowKit Go.Proofs.YtgdoeoackhfikaaGreatDoor Go.Proofs.YtgdoeoackhfikaaGreatDoorW.PrintWords
def glyph_Parse.f (a0 : ByteArray) : Option (List S33) := if a0.size ≤ 100000000 then some (parseF a0) else none
theorem glyph_Parse.calls (a0 : ByteArray) (r : List S33) (w : World) (hG : GG w) (h : glyph_Parse.f a0 = some r) :
  Calls Tryz.prog 19 #[.string a0] w fun e w' => ∃ v0_ : Value, e = .returned (v0_) ∧ Kd.N k33 39 w' w.heap.size (fun k_ => (w.heap.size ≤ k_)) v0_ r ∧ Below w.heap.size w w' := by
 unfold glyph_Parse.f at h
 split at h
 ·rename_i hs
  injection h with h
  subst h
  refine (parse_walk a0 w hs hG).mono ?_
  rintro e w' ⟨v, rfl, hS, hb⟩
  exact ⟨v, rfl, Kd.N_mono (Kd.S_N (Kd.S_bound hS)) (fun k hk => hk.2.1), hb⟩
 ·cases h
end Go.Proofs.YtgdoeoackhfikaaGreatDoor.G

namespace Go.Proofs.YtgdoeoackhfikaaGreatDoor.G
open Go.RowKit Go.Proofs.YtgdoeoackhfikaaGreatDoor Go.Proofs.YtgdoeoackhfikaaGreatDoorW.PrintWords Go.Lib
set_option linter.unusedVariables false
set_option linter.unusedSimpArgs false

def rlF : Nat → Nat → List UInt8 → List (Nat × Int)
 | 0, _, _ => []
 | n + 1, pos, l => if l = [] then [] else (pos, ((decodeL l).1 : Int)) :: rlF n (pos + (decodeL l).2) (l.drop (decodeL l).2)
def rl (pos : Nat) (l : List UInt8) : List (Nat × Int) := rlF l.length pos l
theorem runesFrom_rl (s : ByteArray) : ∀ (fuel pos : Nat), runesFrom s fuel pos = rlF fuel pos (s.data.toList.drop pos)
 | 0, pos => rfl
 | f + 1, pos => by
  have hs : s.data.toList.length = s.size := by simp
  by_cases h : pos < s.size
  ·have hne : s.data.toList.drop pos ≠ [] := fun e => by
    have := congrArg List.length e
    rw [List.length_drop] at this
    simp at this
    omega
   rw [runesFrom_step _ _ _ h, rlF, if_neg hne, decodeL_drop, runesFrom_rl s f, List.drop_drop]
  ·have e : s.data.toList.drop pos = [] := List.drop_eq_nil_of_le (by omega)
   rw [runesFrom_end _ _ _ h, rlF, if_pos e]
theorem runesOf_rl (s : ByteArray) : runesOf s = rl 0 s.data.toList := by
 unfold runesOf rl
 rw [runesFrom_rl, List.drop_zero]
 congr 1


def okS (st : PSt) : Prop := st.opn = true → st.es ≠ []
theorem stepP_ok (st : PSt) (p : Nat × Int) (h : okS st) : okS (stepP st p) := by
 unfold stepP
 split
 ·intro h1; cases h1
 ·split
  ·exact h
  ·intro _; simp

def st0 : PSt := ⟨[], [], false⟩
theorem okS0 : okS st0 := fun h => by cases h
def parseL (l : List UInt8) : List S33 := endP ((rl 0 l).foldl stepP st0)
theorem parseF_L (s : ByteArray) : parseF s = parseL s.data.toList := by
 unfold parseF parseL
 rw [runesOf_rl]
 rfl
theorem stepP_len (st : PSt) (p : Nat × Int) : (stepP st p).es.length ≤ st.es.length + 1 := by
 unfold stepP
 split
 ·simp [closeF_length]
 ·split
  ·simp
  ·simp [closeF_length]
theorem fold_len : ∀ (ps : List (Nat × Int)) (st : PSt), (ps.foldl stepP st).es.length ≤ st.es.length + ps.length
 | [], st => Nat.le_refl _
 | p :: ps, st => by
  have h1 := stepP_len st p
  have h2 := fold_len ps (stepP st p)
  rw [List.foldl_cons, List.length_cons]
  omega
theorem rlF_len : ∀ (n pos : Nat) (l : List UInt8), (rlF n pos l).length ≤ n
 | 0, _, _ => Nat.le_refl _
 | n + 1, pos, l => by
  rw [rlF]
  split
  ·simp
  ·have := rlF_len n (pos + (decodeL l).2) (l.drop (decodeL l).2)
   rw [List.length_cons]
   omega
theorem rl_len (pos : Nat) (l : List UInt8) : (rl pos l).length ≤ l.length := rlF_len _ _ _
theorem parseL_len (l : List UInt8) : (parseL l).length ≤ l.length := by
 unfold parseL endP
 rw [closeF_length]
 have h1 := fold_len (rl 0 l) st0
 have h2 := rl_len 0 l
 have h3 : st0.es.length = 0 := rfl
 omega
theorem closeF_all (P : S33 → Prop) (N : Nat) (hs : ∀ e txt, txt.length ≤ N → P e → P (shutE e txt)) (es : List S33) (txt : List Int) (opn : Bool) (ht : txt.length ≤ N) (h : ∀ e ∈ es, P e) (hne : opn = true → es ≠ []) : ∀ e ∈ closeF es txt opn, P e := by
 intro e he
 unfold closeF at he
 split at he
 ·rename_i ho
  rcases List.mem_or_eq_of_mem_set he with h1 | h1
  ·exact h e h1
  ·rw [h1]
   have hp := List.length_pos_iff.2 (hne ho)
   refine hs _ _ ht (h _ ?_)
   rw [List.getD_eq_getElem?_getD, List.getElem?_eq_getElem (by omega)]
   exact List.getElem_mem _
 ·exact h e he
theorem fold_all (P : S33 → Prop) (N : Nat) (hs : ∀ e txt, txt.length ≤ N → P e → P (shutE e txt)) : ∀ (ps : List (Nat × Int)) (st : PSt), okS st → st.txt.length + ps.length ≤ N → (∀ p ∈ ps, P (newE p.2 p.1)) → (∀ e ∈ st.es, P e) → (∀ e ∈ endP (ps.foldl stepP st), P e)
 | [], st, ho, ht, hn, h => closeF_all P N hs _ _ _ (by simpa using ht) h ho
 | p :: ps, st, ho, ht, hn, h => by
  rw [List.length_cons] at ht
  rw [List.foldl_cons]
  have hc := closeF_all P N hs st.es st.txt st.opn (by omega) h ho
  refine fold_all P N hs ps (stepP st p) (stepP_ok st p ho) ?_ (fun q hq => hn q (List.mem_cons_of_mem _ hq)) ?_
  ·unfold stepP
   split
   ·simp; omega
   ·split
    ·rw [List.length_append, List.length_singleton]; omega
    ·simp; omega
  ·intro e he
   unfold stepP at he
   split at he
   ·exact hc e he
   ·split at he
    ·exact h e he
    ·rcases List.mem_append.1 he with h1 | h1
     ·exact hc e h1
     ·rw [List.mem_singleton.1 h1]
      exact hn _ (List.mem_cons_self ..)

theorem numsFrom_range : ∀ (ps : List ByteArray) (l : List Int), numsFrom ps = some l → ∀ z ∈ l, 0 ≤ z ∧ z < 18446744073709551616
 | [], l, h, z, hz => by
  unfold numsFrom at h
  obtain rfl : [] = l := Option.some.inj h
  cases hz
 | x :: r, l, h, z, hz => by
  unfold numsFrom at h
  split at h
  ·cases h
  ·rename_i u hu
   cases hr : numsFrom r with
   | none => rw [hr] at h; cases h
   | some l' =>
    rw [hr] at h
    obtain rfl : (u : Int) :: l' = l := Option.some.inj h
    rcases List.mem_cons.1 hz with rfl | hz
    ·have := numOf_lt hu; omega
    ·exact numsFrom_range r l' hr z hz
theorem parseL_range (l : List UInt8) : ∀ e ∈ parseL l, ∀ z ∈ e.f1, 0 ≤ z ∧ z < 18446744073709551616 := by
 refine fold_all (fun e => ∀ z ∈ e.f1, 0 ≤ z ∧ z < 18446744073709551616) l.length (fun e txt ht h => ?_) _ _ okS0 ?_ (fun p hp z hz => by cases hz) (fun e he => by cases he)
 ·unfold shutE setA
  split
  ·intro z hz; cases hz
  ·unfold numsOf
   split
   ·intro z hz; cases hz
   ·split
    ·rename_i l' hl'
     exact numsFrom_range _ _ hl'
    ·intro z hz; cases hz
 ·have := rl_len 0 l
  have h0 : st0.txt.length = 0 := rfl
  omega
end Go.Proofs.YtgdoeoackhfikaaGreatDoor.G

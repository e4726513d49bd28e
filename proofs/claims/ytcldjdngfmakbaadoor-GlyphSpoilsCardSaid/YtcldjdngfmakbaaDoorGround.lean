/-
  What the program's library asks of the world: some of Go's own package-level variables hold what their text lays. It is kept by every call that leaves what was there as it was.
-/
import Derived.Test.YtcldjdngfmakbaaDoorProg
import Derived.Lib.LaidTab
import Derived.Lib.ItoaNum
import Derived.Lib.ItoaWalk
import Derived.Lib.ItoaMem
import Derived.Below
namespace Go.Proofs.YtcldjdngfmakbaaDoor
open Go.RowKit

theorem isEmpty_bne (l : List UInt8) : Value.bool (!l.isEmpty) = Value.bool (l != []) := by cases l <;> rfl

/-- The table of powers of ten; the two error variables; MaxLen. -/
structure GG (w : World) : Prop where
  tab : Lib.TabIs Tryd.prog w "internal/strconv.uint64pow10" .u64 Lib.pow10Tab
  syn : ∃ ev, w.cell? ⟨1, 0, none⟩ = some ev ∧ (ev = .nilIface ∨ ∃ te pe, ev = .iface te pe)
  ran : ∃ ev, w.cell? ⟨2, 0, none⟩ = some ev ∧ (ev = .nilIface ∨ ∃ te pe, ev = .iface te pe)
  maxLen : ∃ m : Int, w.cell? ⟨3, 0, none⟩ = some (.int .i64 m)

theorem tabIs_same {P : Program} {w w1 : World} {name : String} {k : IntKind} {zs : List Int} (h : Lib.TabIs P w name k zs) (hb : ∀ i, i < w.heap.size → w1.heap[i]? = w.heap[i]?) : Lib.TabIs P w1 name k zs := by
  unfold Lib.TabIs World.var? at *
  cases hg : P.globalNamed name with
  | none => simp [hg] at h
  | some g =>
    simp only [hg, Option.bind_some] at h ⊢
    have hlt : g < w.heap.size := by
      rcases Nat.lt_or_ge g w.heap.size with h' | h'
      · exact h'
      · rw [Array.getElem?_eq_none h'] at h; simp at h
    rw [hb g hlt]
    exact h

theorem cell_lt {w : World} {a : Addr} {v : Value} (h : w.cell? a = some v) : a.block < w.heap.size := World.block_lt_of_cell? w a h

theorem GG_same {w w1 : World} (h : GG w) (hb : ∀ i, i < w.heap.size → w1.heap[i]? = w.heap[i]?) : GG w1 := by
  have hc : ∀ (a : Addr) v, w.cell? a = some v → w1.cell? a = some v := fun a v hv => (World.cell?_of_block (w := w) (hb a.block (cell_lt hv))).trans hv
  refine ⟨tabIs_same h.tab hb, ?_, ?_, ?_⟩
  · obtain ⟨ev, h1, h2⟩ := h.syn
    exact ⟨ev, hc _ _ h1, h2⟩
  · obtain ⟨ev, h1, h2⟩ := h.ran
    exact ⟨ev, hc _ _ h1, h2⟩
  · obtain ⟨m, h1⟩ := h.maxLen
    exact ⟨m, hc _ _ h1⟩

theorem GG_at {w w1 : World} (h : GG w) (hb : Below w.heap.size w w1) : GG w1 := GG_same h hb.block
end Go.Proofs.YtcldjdngfmakbaaDoor

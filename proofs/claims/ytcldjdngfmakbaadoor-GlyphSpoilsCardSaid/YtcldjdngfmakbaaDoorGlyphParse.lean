/-
  glyph.Parse's contract in the printed functions' own form.
-/
import Derived.Test.YtcldjdngfmakbaaDoorParse
namespace Go.Proofs.YtcldjdngfmakbaaDoor.G
open Go.RowKit Go.Proofs.YtcldjdngfmakbaaDoor Go.Proofs.YtcldjdngfmakbaaDoorW.PrintWords
def glyph_Parse.f (a0 : ByteArray) : Option (List S33) := if a0.size ≤ 100000000 then some (parseF a0) else none
theorem glyph_Parse.calls (a0 : ByteArray) (r : List S33) (w : World) (hG : GG w) (h : glyph_Parse.f a0 = some r) :
    Calls Tryd.prog 12 #[.string a0] w fun e w' => ∃ v0_ : Value, e = .returned (v0_) ∧ Kd.N k33 33 w' w.heap.size (fun k_ => (w.heap.size ≤ k_)) v0_ r ∧ Below w.heap.size w w' := by
  unfold glyph_Parse.f at h
  split at h
  · rename_i hs
    injection h with h
    subst h
    refine (parse_walk a0 w hs hG).mono ?_
    rintro e w' ⟨v, rfl, hS, hb⟩
    exact ⟨v, rfl, Kd.N_mono (Kd.S_N (Kd.S_bound hS)) (fun k hk => hk.2.1), hb⟩
  · cases h
end Go.Proofs.YtcldjdngfmakbaaDoor.G

/-
  Proved: GlyphTells answers true and leaves its arguments as they were, for every input; where the package-level variables that the row lists hold what the program's text lays (the card ties that).
-/
import Derived.Test.YtcldjdngfmakbaaDoorCardGlyphTells
import Derived.Test.YtcldjdngfmakbaaDoorPTells
namespace Go.Proofs.YtcldjdngfmakbaaDoor
theorem glyphTells_holds : Rows.GlyphTellsCardSaid := glyphTells_card (fun a0 a1 z0 w1 => G.tells_pure a0 a1 z0 w1)
#print axioms glyphTells_holds
end Go.Proofs.YtcldjdngfmakbaaDoor

/-
  Proved: GlyphParts answers true and leaves its arguments as they were, for every input; where the package-level variables that the row lists hold what the program's text lays (the card ties that).
-/
import Derived.Test.YtcldjdngfmakbaaDoorCardGlyphParts
import Derived.Test.YtcldjdngfmakbaaDoorPureParts
namespace Go.Proofs.YtcldjdngfmakbaaDoor
theorem glyphParts_holds : Rows.GlyphPartsCardSaid := glyphParts_card (fun a0 a1 z0 z1 => G.parts_pure a0 a1 z0 z1)
#print axioms glyphParts_holds
end Go.Proofs.YtcldjdngfmakbaaDoor

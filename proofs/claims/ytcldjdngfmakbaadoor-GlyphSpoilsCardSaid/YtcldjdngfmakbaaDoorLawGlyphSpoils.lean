/-
  Proved: GlyphSpoils answers true and leaves its argument as it was, for every input; where the package-level variables that the row lists hold what the program's text lays (the card ties that).
-/
import Derived.Test.YtcldjdngfmakbaaDoorCardGlyphSpoils
import Derived.Test.YtcldjdngfmakbaaDoorPureSpoils
namespace Go.Proofs.YtcldjdngfmakbaaDoor
theorem glyphSpoils_holds : Rows.GlyphSpoilsCardSaid := glyphSpoils_card (fun a0 z0 => G.spoils_pure a0 z0)
#print axioms glyphSpoils_holds
end Go.Proofs.YtcldjdngfmakbaaDoor

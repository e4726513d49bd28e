/-
  Proved: GlyphBlanks answers true and leaves its arguments as they were, for every input; where the package-level variables that the row lists hold what the program's text lays (the card ties that).
-/
import Derived.Test.YtcldjdngfmakbaaDoorCardGlyphBlanks
import Derived.Test.YtcldjdngfmakbaaDoorPureBlanks
namespace Go.Proofs.YtcldjdngfmakbaaDoor
theorem glyphBlanks_holds : Rows.GlyphBlanksCardSaid := glyphBlanks_card (fun a0 a1 a2 w0 w1 w2 => G.blanks_pure a0 a1 a2 w0 w1 w2)
#print axioms glyphBlanks_holds
end Go.Proofs.YtcldjdngfmakbaaDoor

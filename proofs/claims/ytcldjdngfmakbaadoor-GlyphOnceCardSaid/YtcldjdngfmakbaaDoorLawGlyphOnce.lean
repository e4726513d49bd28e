/-
  Proved: GlyphOnce answers true and leaves its arguments as they were, for every input; where the package-level variables that the row lists hold what the program's text lays (the card ties that).
-/
import Derived.Test.YtcldjdngfmakbaaDoorCardGlyphOnce
import Derived.Test.YtcldjdngfmakbaaDoorPureOnce
namespace Go.Proofs.YtcldjdngfmakbaaDoor
theorem glyphOnce_holds : Rows.GlyphOnceCardSaid := glyphOnce_card (fun a0 a1 a2 a3 w0 w1 w2 w3 => G.once_pure a0 a1 a2 a3 w0 w1 w2 w3)
#print axioms glyphOnce_holds
end Go.Proofs.YtcldjdngfmakbaaDoor

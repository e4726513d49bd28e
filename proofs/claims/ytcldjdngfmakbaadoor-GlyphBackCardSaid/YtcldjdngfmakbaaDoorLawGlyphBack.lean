/-
  Proved: GlyphBack answers true and leaves its arguments as they were, for every input; where the package-level variables that the row lists hold what the program's text lays (the card ties that).
-/
import Derived.Test.YtcldjdngfmakbaaDoorCardGlyphBack
import Derived.Test.YtcldjdngfmakbaaDoorPureBack
namespace Go.Proofs.YtcldjdngfmakbaaDoor
theorem glyphBack_holds : Rows.GlyphBackCardSaid := glyphBack_card (fun a0 a1 w0 w1 => G.back_pure a0 a1 w0 w1)
#print axioms glyphBack_holds
end Go.Proofs.YtcldjdngfmakbaaDoor

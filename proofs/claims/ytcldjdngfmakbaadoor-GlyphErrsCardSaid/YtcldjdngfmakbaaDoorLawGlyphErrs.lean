/-
  Proved: GlyphErrs answers true and leaves its arguments as they were, for every input; where the package-level variables that the row lists hold what the program's text lays (the card ties that).
-/
import Derived.Test.YtcldjdngfmakbaaDoorCardGlyphErrs
import Derived.Test.YtcldjdngfmakbaaDoorPureErrs
namespace Go.Proofs.YtcldjdngfmakbaaDoor
theorem glyphErrs_holds : Rows.GlyphErrsCardSaid := glyphErrs_card (fun a0 a1 a2 w0 w1 w2 => G.errs_pure a0 a1 a2 w0 w1 w2)
#print axioms glyphErrs_holds
end Go.Proofs.YtcldjdngfmakbaaDoor

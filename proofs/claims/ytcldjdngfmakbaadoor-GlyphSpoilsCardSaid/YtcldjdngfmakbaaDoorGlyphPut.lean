/-
  glyph.Put's contract in the printed functions' own form.
-/
import Derived.Test.YtcldjdngfmakbaaDoorPut
namespace Go.Proofs.YtcldjdngfmakbaaDoor.G
open Go.RowKit Go.Proofs.YtcldjdngfmakbaaDoor Go.Proofs.YtcldjdngfmakbaaDoorW.PrintWords
instance putOk_dec (l : List S33) : Decidable (putOk l) := by unfold putOk; infer_instance
def glyph_Put.f (l0 : List S33) : Option (ByteArray × Int) := if putOk l0 then some (putF l0) else none
theorem glyph_Put.calls (A0 : Option Addr) (c0 : Nat) (l0 : List S33) (r1 : ByteArray) (r2 : Int) (w : World) (hr0 : Kd.C k33 w A0 l0.length l0) (hc0 : l0.length ≤ c0) (hG : GG w) (h : glyph_Put.f l0 = some (r1, r2)) :
    Calls Tryd.prog 14 #[.slice A0 l0.length c0] w fun e w' => e = .returned (.tuple #[.string r1, .int .i64 r2]) ∧ Below w.heap.size w w' := by
  unfold glyph_Put.f at h
  split at h
  · rename_i hs
    injection h with h
    have h1 : (putF l0).1 = r1 := by rw [h]
    have h2 : (putF l0).2 = r2 := by rw [h]
    rw [← h1, ← h2]
    exact put_walk A0 c0 l0 w hr0 hc0 hs hG
  · cases h
end Go.Proofs.YtcldjdngfmakbaaDoor.G

/-
  The card of GlyphSpoils, out of what its printed function answers.
-/
import Derived.Test.YtcldjdngfmakbaaDoorCardOpen
import Derived.Test.YtcldjdngfmakbaaDoorG4
namespace Go.Proofs.YtcldjdngfmakbaaDoor
open Go.ChangeShapes Go.WideShapes Go.ChangeAt Go.RowKit Go.Proofs.YtcldjdngfmakbaaDoorW.PrintWords
open Go.ChangeMaps (open_string shut_string)
set_option maxRecDepth 100000

theorem glyphSpoils_reads (os : Os) {H : Type} (enc : TypeId × Value → H) : ∃ places, DataW.whole enc Tryd.prog ((World.laidAll Tryd.prog os laid0).forCall (fun _ _ => 0) ⟨#[], #[.string ByteArray.empty], []⟩).memory Tryd.f4.params.toList Rows.glyphSpoilsSpec.vars false #[(.string ByteArray.empty : Value)].toList 8 = some ([.lit (.string [])], [], places) :=
  ⟨[], by kernel_rfl⟩
theorem glyphSpoils_lifted (pure : ∀ (a0 : ByteArray), a0.size ≤ 140737488351232 → ∃ k, G.hatstandlaw3_GlyphSpoils.f k a0 = some true) (os : Os) (started : os.Started) (H : Type) (enc : TypeId × Value → H) (F : Stop.Interp) :
    ReturnsInHanded {} Tryd.checked os 4 .any ((OpenSpec.ofChange Rows.glyphSpoilsSpec).preRow enc Tryd.prog Tryd.f4 Rows.glyphSpoilsRow.domain false Rows.glyphSpoilsRow.laid) (((OpenSpec.ofChange Rows.glyphSpoilsSpec).at F).post enc Tryd.prog Tryd.f4 false true false false) := by
  obtain ⟨places, hx⟩ := glyphSpoils_reads os enc
  refine lifted_law started #[.string ByteArray.empty] Tryd.func4 (by kernel_rfl) rfl rfl ?_ ?_ (by kernel_rfl) (OpenSpec.preRow_of_cond 8 hx (by kernel_rfl) (fun k hk => by cases hk) (by kernel_rfl) (wit_met os _)) ?_
  · intro ds hl
    rw [Tryd.params4] at hl
    match ds, hl with
    | [d0], _ => rfl
  · intro t ht
    rw [Tryd.params4] at ht
    have hm : t ∈ [9] := ht
    have hall : ([9].all fun u => Tryd.prog.readableRec u && decide (u < Tryd.prog.types.size)) = true := by kernel_rfl
    simpa using List.all_eq_true.1 hall t hm
  · intro W base args ds p hval hA hG hsz
    rw [Tryd.params4] at hA hval hsz
    obtain ⟨v0, vs0, d0, ds0, p0, q0, hargs, rfl, rfl, h0, r0⟩ := trodAll_cons hA
    obtain ⟨rfl, rfl, rfl⟩ := trodAll_nil r0
    obtain rfl : args = #[v0] := by cases args; simp_all
    obtain ⟨a0, rfl, rfl, rfl, _⟩ := open_string Tryd.underlying9 (hval 0 9 v0 rfl rfl) h0
    have z0 : a0.size ≤ 140737488351232 := by
      have z := sized_string hsz (j := 0) (t := 9) rfl rfl
      rw [Array.length_toList] at z
      exact z
    obtain ⟨k, hk⟩ := pure a0 z0
    exact G.hatstandlaw3_GlyphSpoils.calls k a0 true W  hG hk

theorem glyphSpoils_said (pure : ∀ (a0 : ByteArray), a0.size ≤ 140737488351232 → ∃ k, G.hatstandlaw3_GlyphSpoils.f k a0 = some true) : Rows.GlyphSpoilsSaid :=
  OpenClaim.holds_of_cond 4 Tryd.f4 rfl rfl rfl rfl rfl rfl rfl ⟨rfl, rfl, rfl, rfl, rfl⟩ rfl rfl rfl rfl rfl (by kernel_rfl) Tryd.func4 (by kernel_rfl)
    (of_decide_eq_true (by kernel_rfl)) (by unfold Func.isWrapper; first | (rw [if_pos (by decide +kernel)]; kernel_rfl) | (rw [if_neg (by decide +kernel)]; exact ⟨rfl, rfl⟩))
    (fun os started H enc _ F => by rw [OpenClaim.pre_eq_preRow]; exact glyphSpoils_lifted pure os started H enc F)

theorem glyphSpoils_plain (f : FuncId) (fn : Func) (hf : Tryd.pinned.checked.prog.funcNamed "hatstand/hatstandlaw3.GlyphSpoils" = some f) (hfn : Tryd.pinned.checked.prog.funcs[f]? = some fn) :
    true = Tryd.pinned.checked.prog.looks [] ∧ ∀ (j : Nat) t, fn.params[j]? = some t → Tryd.pinned.checked.prog.wantsStandIn t = false := by
  obtain rfl : f = 4 := Option.some.inj ((show Tryd.prog.funcNamed "hatstand/hatstandlaw3.GlyphSpoils" = some 4 by kernel_rfl).symm.trans hf) |>.symm
  obtain rfl : fn = Tryd.f4 := (Option.some.inj (Tryd.func4.symm.trans hfn)).symm
  refine ⟨by kernel_rfl, fun j t ht => ?_⟩
  rw [Tryd.params4] at ht
  have hm : t ∈ [9] := by simpa using Array.mem_of_getElem? ht
  have hall : ([9].all fun u => !Tryd.prog.wantsStandIn u) = true := by kernel_rfl
  exact (show Tryd.prog.wantsStandIn t = false by simpa using List.all_eq_true.1 hall t hm)

theorem glyphSpoils_card (pure : ∀ (a0 : ByteArray), a0.size ≤ 140737488351232 → ∃ k, G.hatstandlaw3_GlyphSpoils.f k a0 = some true) : Rows.GlyphSpoilsCardSaid :=
  Claim7.holds_tied_plain_at .later [] _ _ _ _ (glyphSpoils_said pure) (fun _ h => by cases h) (by kernel_rfl) (fun _ h => by cases h) glyphSpoils_row_tie rfl ⟨rfl, rfl⟩ (by kernel_rfl) rfl glyphSpoils_plain (by kernel_rfl)
end Go.Proofs.YtcldjdngfmakbaaDoor

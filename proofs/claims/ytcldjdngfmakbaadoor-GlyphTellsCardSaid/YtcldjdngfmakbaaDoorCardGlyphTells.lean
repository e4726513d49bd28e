/-
  The card of GlyphTells, out of what its printed function answers.
-/
import Derived.Test.YtcldjdngfmakbaaDoorCardOpen
import Derived.Test.YtcldjdngfmakbaaDoorG9
import Derived.Test.YtcldjdngfmakbaaDoorCardEntry
namespace Go.Proofs.YtcldjdngfmakbaaDoor
open Go.ChangeShapes Go.WideShapes Go.ChangeAt Go.RowKit Go.Proofs.YtcldjdngfmakbaaDoorW.PrintWords
open Go.ChangeMaps (open_string shut_string)
set_option maxRecDepth 100000

theorem glyphTells_reads (os : Os) {H : Type} (enc : TypeId × Value → H) : ∃ places, DataW.whole enc Tryd.prog ((World.laidAll Tryd.prog os laid0).forCall (fun _ _ => 0) ⟨#[], #[.string ByteArray.empty, .slice none 0 0], []⟩).memory Tryd.f5.params.toList Rows.glyphTellsSpec.vars false #[(.string ByteArray.empty : Value), (.slice none 0 0 : Value)].toList 8 = some ([.lit (.string []), .nil], [], places) :=
  ⟨[], by kernel_rfl⟩
theorem glyphTells_lifted (pure : ∀ (a0 : ByteArray) (a1 : List G.S33), a0.size ≤ 140737488351232 → (∀ x ∈ a1, Entry_ok x) → ∃ k, G.hatstandlaw3_GlyphTells.f k a0 a1 = some true) (os : Os) (started : os.Started) (H : Type) (enc : TypeId × Value → H) (F : Stop.Interp) :
    ReturnsInHanded {} Tryd.checked os 5 .any ((OpenSpec.ofChange Rows.glyphTellsSpec).preRow enc Tryd.prog Tryd.f5 Rows.glyphTellsRow.domain false Rows.glyphTellsRow.laid) (((OpenSpec.ofChange Rows.glyphTellsSpec).at F).post enc Tryd.prog Tryd.f5 false true false false) := by
  obtain ⟨places, hx⟩ := glyphTells_reads os enc
  refine lifted_law started #[.string ByteArray.empty, .slice none 0 0] Tryd.func5 (by kernel_rfl) rfl rfl ?_ ?_ (by kernel_rfl) (OpenSpec.preRow_of_cond 8 hx (by kernel_rfl) (fun k hk => by cases hk) (by kernel_rfl) (wit_met os _)) ?_
  · intro ds hl
    rw [Tryd.params5] at hl
    match ds, hl with
    | [d0, d1], _ => rfl
  · intro t ht
    rw [Tryd.params5] at ht
    have hm : t ∈ [9, 25] := ht
    have hall : ([9, 25].all fun u => Tryd.prog.readableRec u && decide (u < Tryd.prog.types.size)) = true := by kernel_rfl
    simpa using List.all_eq_true.1 hall t hm
  · intro W base args ds p hval hA hG hsz
    rw [Tryd.params5] at hA hval hsz
    obtain ⟨v0, vs0, d0, ds0, p0, q0, hargs, rfl, rfl, h0, r0⟩ := trodAll_cons hA
    obtain ⟨v1, vs1, d1, ds1, p1, q1, rfl, rfl, rfl, h1, r1⟩ := trodAll_cons r0
    obtain ⟨rfl, rfl, rfl⟩ := trodAll_nil r1
    obtain rfl : args = #[v0, v1] := by cases args; simp_all
    obtain ⟨a0, rfl, rfl, rfl, _⟩ := open_string Tryd.underlying9 (hval 0 9 v0 rfl rfl) h0
    have z0 : a0.size ≤ 140737488351232 := by
      have z := sized_string hsz (j := 0) (t := 9) rfl rfl
      rw [Array.length_toList] at z
      exact z
    obtain ⟨A1, c1, a1, rfl, hc1, hr1, w1⟩ := open_entries (hval 1 25 v1 rfl rfl) h1 (weightsEach_nth (j := 1) rfl rfl (fun n hn => by simpa using List.all_eq_true.1 hsz n hn))
    obtain ⟨k, hk⟩ := pure a0 a1 z0 w1
    exact G.hatstandlaw3_GlyphTells.calls k a0 A1 c1 a1 true W hr1 hc1 hG hk

theorem glyphTells_said (pure : ∀ (a0 : ByteArray) (a1 : List G.S33), a0.size ≤ 140737488351232 → (∀ x ∈ a1, Entry_ok x) → ∃ k, G.hatstandlaw3_GlyphTells.f k a0 a1 = some true) : Rows.GlyphTellsSaid :=
  OpenClaim.holds_of_cond 5 Tryd.f5 rfl rfl rfl rfl rfl rfl rfl ⟨rfl, rfl, rfl, rfl, rfl⟩ rfl rfl rfl rfl rfl (by kernel_rfl) Tryd.func5 (by kernel_rfl)
    (of_decide_eq_true (by kernel_rfl)) (by unfold Func.isWrapper; first | (rw [if_pos (by decide +kernel)]; kernel_rfl) | (rw [if_neg (by decide +kernel)]; exact ⟨rfl, rfl⟩))
    (fun os started H enc _ F => by rw [OpenClaim.pre_eq_preRow]; exact glyphTells_lifted pure os started H enc F)

theorem glyphTells_plain (f : FuncId) (fn : Func) (hf : Tryd.pinned.checked.prog.funcNamed "hatstand/hatstandlaw3.GlyphTells" = some f) (hfn : Tryd.pinned.checked.prog.funcs[f]? = some fn) :
    true = Tryd.pinned.checked.prog.looks [] ∧ ∀ (j : Nat) t, fn.params[j]? = some t → Tryd.pinned.checked.prog.wantsStandIn t = false := by
  obtain rfl : f = 5 := Option.some.inj ((show Tryd.prog.funcNamed "hatstand/hatstandlaw3.GlyphTells" = some 5 by kernel_rfl).symm.trans hf) |>.symm
  obtain rfl : fn = Tryd.f5 := (Option.some.inj (Tryd.func5.symm.trans hfn)).symm
  refine ⟨by kernel_rfl, fun j t ht => ?_⟩
  rw [Tryd.params5] at ht
  have hm : t ∈ [9, 25] := by simpa using Array.mem_of_getElem? ht
  have hall : ([9, 25].all fun u => !Tryd.prog.wantsStandIn u) = true := by kernel_rfl
  exact (show Tryd.prog.wantsStandIn t = false by simpa using List.all_eq_true.1 hall t hm)

theorem glyphTells_card (pure : ∀ (a0 : ByteArray) (a1 : List G.S33), a0.size ≤ 140737488351232 → (∀ x ∈ a1, Entry_ok x) → ∃ k, G.hatstandlaw3_GlyphTells.f k a0 a1 = some true) : Rows.GlyphTellsCardSaid :=
  Claim7.holds_tied_plain_at .later [] _ _ _ _ (glyphTells_said pure) (fun _ h => by cases h) (by kernel_rfl) (fun _ h => by cases h) glyphTells_row_tie rfl ⟨rfl, rfl⟩ (by kernel_rfl) rfl glyphTells_plain (by kernel_rfl)
end Go.Proofs.YtcldjdngfmakbaaDoor

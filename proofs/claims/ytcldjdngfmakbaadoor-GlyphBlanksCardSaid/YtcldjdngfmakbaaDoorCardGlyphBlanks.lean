/-
  The card of GlyphBlanks, out of what its printed function answers.
-/
import Derived.Test.YtcldjdngfmakbaaDoorCardOpen
import Derived.Test.YtcldjdngfmakbaaDoorGBlanks
namespace Go.Proofs.YtcldjdngfmakbaaDoor
open Go.ChangeShapes Go.WideShapes Go.ChangeAt Go.RowKit Go.Proofs.YtcldjdngfmakbaaDoorW.PrintWords
open Go.ChangeMaps (open_string shut_string)
set_option maxRecDepth 100000

theorem glyphBlanks_reads (os : Os) {H : Type} (enc : TypeId × Value → H) : ∃ places, DataW.whole enc Tryd.prog ((World.laidAll Tryd.prog os laid0).forCall (fun _ _ => 0) ⟨#[], #[.slice none 0 0, .slice none 0 0, .slice none 0 0], []⟩).memory Tryd.f7.params.toList Rows.glyphBlanksSpec.vars false #[(.slice none 0 0 : Value), (.slice none 0 0 : Value), (.slice none 0 0 : Value)].toList 8 = some ([.nil, .nil, .nil], [], places) :=
  ⟨[], by kernel_rfl⟩
theorem glyphBlanks_lifted (pure : ∀ (a0 : List Int) (a1 : List (List Int)) (a2 : List Int), (∀ y ∈ a0, (Lit.int .i64 y).wf = true) → (∀ x ∈ a1, ∀ y ∈ x, (Lit.int .u64 y).wf = true) → (∀ y ∈ a2, (Lit.int .i64 y).wf = true) → ∃ k, G.hatstandlaw3_GlyphBlanks.f k a0 a1 a2 = some true) (os : Os) (started : os.Started) (H : Type) (enc : TypeId × Value → H) (F : Stop.Interp) :
    ReturnsInHanded {} Tryd.checked os 7 .any ((OpenSpec.ofChange Rows.glyphBlanksSpec).preRow enc Tryd.prog Tryd.f7 Rows.glyphBlanksRow.domain false Rows.glyphBlanksRow.laid) (((OpenSpec.ofChange Rows.glyphBlanksSpec).at F).post enc Tryd.prog Tryd.f7 false true false false) := by
  obtain ⟨places, hx⟩ := glyphBlanks_reads os enc
  refine lifted_law started #[.slice none 0 0, .slice none 0 0, .slice none 0 0] Tryd.func7 (by kernel_rfl) rfl rfl ?_ ?_ (by kernel_rfl) (OpenSpec.preRow_of_cond 8 hx (by kernel_rfl) (fun k hk => by cases hk) (by kernel_rfl) (wit_met os _)) ?_
  · intro ds hl
    rw [Tryd.params7] at hl
    match ds, hl with
    | [d0, d1, d2], _ => rfl
  · intro t ht
    rw [Tryd.params7] at ht
    have hm : t ∈ [41, 42, 41] := ht
    have hall : ([41, 42, 41].all fun u => Tryd.prog.readableRec u && decide (u < Tryd.prog.types.size)) = true := by kernel_rfl
    simpa using List.all_eq_true.1 hall t hm
  · intro W base args ds p hval hA hG hsz
    rw [Tryd.params7] at hA hval hsz
    obtain ⟨v0, vs0, d0, ds0, p0, q0, hargs, rfl, rfl, h0, r0⟩ := trodAll_cons hA
    obtain ⟨v1, vs1, d1, ds1, p1, q1, rfl, rfl, rfl, h1, r1⟩ := trodAll_cons r0
    obtain ⟨v2, vs2, d2, ds2, p2, q2, rfl, rfl, rfl, h2, r2⟩ := trodAll_cons r1
    obtain ⟨rfl, rfl, rfl⟩ := trodAll_nil r2
    obtain rfl : args = #[v0, v1, v2] := by cases args; simp_all
    obtain ⟨A0, c0, a0, rfl, hc0, hr0, w0⟩ := open_arg Tryd.underlying41 (by kernel_rfl) (opens_int Tryd.underlying3) (hval 0 41 v0 rfl rfl) h0
    obtain ⟨A1, c1, a1, rfl, hc1, hr1, w1⟩ := open_arg Tryd.underlying42 (by kernel_rfl) opens_ints (hval 1 42 v1 rfl rfl) h1
    obtain ⟨A2, c2, a2, rfl, hc2, hr2, w2⟩ := open_arg Tryd.underlying41 (by kernel_rfl) (opens_int Tryd.underlying3) (hval 2 41 v2 rfl rfl) h2
    obtain ⟨k, hk⟩ := pure a0 a1 a2 w0 w1 w2
    exact G.hatstandlaw3_GlyphBlanks.calls k A0 c0 a0 A1 c1 a1 A2 c2 a2 true W hr0 hc0 hr1 hc1 hr2 hc2 hG hk

theorem glyphBlanks_said (pure : ∀ (a0 : List Int) (a1 : List (List Int)) (a2 : List Int), (∀ y ∈ a0, (Lit.int .i64 y).wf = true) → (∀ x ∈ a1, ∀ y ∈ x, (Lit.int .u64 y).wf = true) → (∀ y ∈ a2, (Lit.int .i64 y).wf = true) → ∃ k, G.hatstandlaw3_GlyphBlanks.f k a0 a1 a2 = some true) : Rows.GlyphBlanksSaid :=
  OpenClaim.holds_of_cond 7 Tryd.f7 rfl rfl rfl rfl rfl rfl rfl ⟨rfl, rfl, rfl, rfl, rfl⟩ rfl rfl rfl rfl rfl (by kernel_rfl) Tryd.func7 (by kernel_rfl)
    (of_decide_eq_true (by kernel_rfl)) (by unfold Func.isWrapper; first | (rw [if_pos (by decide +kernel)]; kernel_rfl) | (rw [if_neg (by decide +kernel)]; exact ⟨rfl, rfl⟩))
    (fun os started H enc _ F => by rw [OpenClaim.pre_eq_preRow]; exact glyphBlanks_lifted pure os started H enc F)

theorem glyphBlanks_plain (f : FuncId) (fn : Func) (hf : Tryd.pinned.checked.prog.funcNamed "hatstand/hatstandlaw3.GlyphBlanks" = some f) (hfn : Tryd.pinned.checked.prog.funcs[f]? = some fn) :
    true = Tryd.pinned.checked.prog.looks [] ∧ ∀ (j : Nat) t, fn.params[j]? = some t → Tryd.pinned.checked.prog.wantsStandIn t = false := by
  obtain rfl : f = 7 := Option.some.inj ((show Tryd.prog.funcNamed "hatstand/hatstandlaw3.GlyphBlanks" = some 7 by kernel_rfl).symm.trans hf) |>.symm
  obtain rfl : fn = Tryd.f7 := (Option.some.inj (Tryd.func7.symm.trans hfn)).symm
  refine ⟨by kernel_rfl, fun j t ht => ?_⟩
  rw [Tryd.params7] at ht
  have hm : t ∈ [41, 42, 41] := by simpa using Array.mem_of_getElem? ht
  have hall : ([41, 42, 41].all fun u => !Tryd.prog.wantsStandIn u) = true := by kernel_rfl
  exact (show Tryd.prog.wantsStandIn t = false by simpa using List.all_eq_true.1 hall t hm)

theorem glyphBlanks_card (pure : ∀ (a0 : List Int) (a1 : List (List Int)) (a2 : List Int), (∀ y ∈ a0, (Lit.int .i64 y).wf = true) → (∀ x ∈ a1, ∀ y ∈ x, (Lit.int .u64 y).wf = true) → (∀ y ∈ a2, (Lit.int .i64 y).wf = true) → ∃ k, G.hatstandlaw3_GlyphBlanks.f k a0 a1 a2 = some true) : Rows.GlyphBlanksCardSaid :=
  Claim7.holds_tied_plain_at .later [] _ _ _ _ (glyphBlanks_said pure) (fun _ h => by cases h) (by kernel_rfl) (fun _ h => by cases h) glyphBlanks_row_tie rfl ⟨rfl, rfl⟩ (by kernel_rfl) rfl glyphBlanks_plain (by kernel_rfl)
end Go.Proofs.YtcldjdngfmakbaaDoor

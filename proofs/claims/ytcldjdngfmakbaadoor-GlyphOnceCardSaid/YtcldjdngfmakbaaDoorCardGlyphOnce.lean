/-
  The card of GlyphOnce, out of what its printed function answers.
-/
import Derived.Test.YtcldjdngfmakbaaDoorCardOpen
import Derived.Test.YtcldjdngfmakbaaDoorG12
namespace Go.Proofs.YtcldjdngfmakbaaDoor
open Go.ChangeShapes Go.WideShapes Go.ChangeAt Go.RowKit Go.Proofs.YtcldjdngfmakbaaDoorW.PrintWords
open Go.ChangeMaps (open_string shut_string)
set_option maxRecDepth 100000

theorem glyphOnce_reads (os : Os) {H : Type} (enc : TypeId × Value → H) : ∃ places, DataW.whole enc Tryd.prog ((World.laidAll Tryd.prog os laid0).forCall (fun _ _ => 0) ⟨#[], #[.slice none 0 0, .slice none 0 0, .slice none 0 0, .slice none 0 0], []⟩).memory Tryd.f9.params.toList Rows.glyphOnceSpec.vars false #[(.slice none 0 0 : Value), (.slice none 0 0 : Value), (.slice none 0 0 : Value), (.slice none 0 0 : Value)].toList 8 = some ([.nil, .nil, .nil, .nil], [], places) :=
  ⟨[], by kernel_rfl⟩
theorem glyphOnce_lifted (pure : ∀ (a0 : List Int) (a1 : List (List Int)) (a2 : List Int) (a3 : List (List Int)), (∀ y ∈ a0, (Lit.int .i64 y).wf = true) → (∀ x ∈ a1, ∀ y ∈ x, (Lit.int .u64 y).wf = true) → (∀ y ∈ a2, (Lit.int .i64 y).wf = true) → (∀ x ∈ a3, ∀ y ∈ x, (Lit.int .u64 y).wf = true) → ∃ k, G.hatstandlaw3_GlyphOnce.f k a0 a1 a2 a3 = some true) (os : Os) (started : os.Started) (H : Type) (enc : TypeId × Value → H) (F : Stop.Interp) :
    ReturnsInHanded {} Tryd.checked os 9 .any ((OpenSpec.ofChange Rows.glyphOnceSpec).preRow enc Tryd.prog Tryd.f9 Rows.glyphOnceRow.domain false Rows.glyphOnceRow.laid) (((OpenSpec.ofChange Rows.glyphOnceSpec).at F).post enc Tryd.prog Tryd.f9 false true false false) := by
  obtain ⟨places, hx⟩ := glyphOnce_reads os enc
  refine lifted_law started #[.slice none 0 0, .slice none 0 0, .slice none 0 0, .slice none 0 0] Tryd.func9 (by kernel_rfl) rfl rfl ?_ ?_ (by kernel_rfl) (OpenSpec.preRow_of_cond 8 hx (by kernel_rfl) (fun k hk => by cases hk) (by kernel_rfl) (wit_met os _)) ?_
  · intro ds hl
    rw [Tryd.params9] at hl
    match ds, hl with
    | [d0, d1, d2, d3], _ => rfl
  · intro t ht
    rw [Tryd.params9] at ht
    have hm : t ∈ [41, 42, 41, 42] := ht
    have hall : ([41, 42, 41, 42].all fun u => Tryd.prog.readableRec u && decide (u < Tryd.prog.types.size)) = true := by kernel_rfl
    simpa using List.all_eq_true.1 hall t hm
  · intro W base args ds p hval hA hG hsz
    rw [Tryd.params9] at hA hval hsz
    obtain ⟨v0, vs0, d0, ds0, p0, q0, hargs, rfl, rfl, h0, r0⟩ := trodAll_cons hA
    obtain ⟨v1, vs1, d1, ds1, p1, q1, rfl, rfl, rfl, h1, r1⟩ := trodAll_cons r0
    obtain ⟨v2, vs2, d2, ds2, p2, q2, rfl, rfl, rfl, h2, r2⟩ := trodAll_cons r1
    obtain ⟨v3, vs3, d3, ds3, p3, q3, rfl, rfl, rfl, h3, r3⟩ := trodAll_cons r2
    obtain ⟨rfl, rfl, rfl⟩ := trodAll_nil r3
    obtain rfl : args = #[v0, v1, v2, v3] := by cases args; simp_all
    obtain ⟨A0, c0, a0, rfl, hc0, hr0, w0⟩ := open_arg Tryd.underlying41 (by kernel_rfl) (opens_int Tryd.underlying3) (hval 0 41 v0 rfl rfl) h0
    obtain ⟨A1, c1, a1, rfl, hc1, hr1, w1⟩ := open_arg Tryd.underlying42 (by kernel_rfl) opens_ints (hval 1 42 v1 rfl rfl) h1
    obtain ⟨A2, c2, a2, rfl, hc2, hr2, w2⟩ := open_arg Tryd.underlying41 (by kernel_rfl) (opens_int Tryd.underlying3) (hval 2 41 v2 rfl rfl) h2
    obtain ⟨A3, c3, a3, rfl, hc3, hr3, w3⟩ := open_arg Tryd.underlying42 (by kernel_rfl) opens_ints (hval 3 42 v3 rfl rfl) h3
    obtain ⟨k, hk⟩ := pure a0 a1 a2 a3 w0 w1 w2 w3
    exact G.hatstandlaw3_GlyphOnce.calls k A0 c0 a0 A1 c1 a1 A2 c2 a2 A3 c3 a3 true W hr0 hc0 hr1 hc1 hr2 hc2 hr3 hc3 hG hk

theorem glyphOnce_said (pure : ∀ (a0 : List Int) (a1 : List (List Int)) (a2 : List Int) (a3 : List (List Int)), (∀ y ∈ a0, (Lit.int .i64 y).wf = true) → (∀ x ∈ a1, ∀ y ∈ x, (Lit.int .u64 y).wf = true) → (∀ y ∈ a2, (Lit.int .i64 y).wf = true) → (∀ x ∈ a3, ∀ y ∈ x, (Lit.int .u64 y).wf = true) → ∃ k, G.hatstandlaw3_GlyphOnce.f k a0 a1 a2 a3 = some true) : Rows.GlyphOnceSaid :=
  OpenClaim.holds_of_cond 9 Tryd.f9 rfl rfl rfl rfl rfl rfl rfl ⟨rfl, rfl, rfl, rfl, rfl⟩ rfl rfl rfl rfl rfl (by kernel_rfl) Tryd.func9 (by kernel_rfl)
    (of_decide_eq_true (by kernel_rfl)) (by unfold Func.isWrapper; first | (rw [if_pos (by decide +kernel)]; kernel_rfl) | (rw [if_neg (by decide +kernel)]; exact ⟨rfl, rfl⟩))
    (fun os started H enc _ F => by rw [OpenClaim.pre_eq_preRow]; exact glyphOnce_lifted pure os started H enc F)

theorem glyphOnce_plain (f : FuncId) (fn : Func) (hf : Tryd.pinned.checked.prog.funcNamed "hatstand/hatstandlaw3.GlyphOnce" = some f) (hfn : Tryd.pinned.checked.prog.funcs[f]? = some fn) :
    true = Tryd.pinned.checked.prog.looks [] ∧ ∀ (j : Nat) t, fn.params[j]? = some t → Tryd.pinned.checked.prog.wantsStandIn t = false := by
  obtain rfl : f = 9 := Option.some.inj ((show Tryd.prog.funcNamed "hatstand/hatstandlaw3.GlyphOnce" = some 9 by kernel_rfl).symm.trans hf) |>.symm
  obtain rfl : fn = Tryd.f9 := (Option.some.inj (Tryd.func9.symm.trans hfn)).symm
  refine ⟨by kernel_rfl, fun j t ht => ?_⟩
  rw [Tryd.params9] at ht
  have hm : t ∈ [41, 42, 41, 42] := by simpa using Array.mem_of_getElem? ht
  have hall : ([41, 42, 41, 42].all fun u => !Tryd.prog.wantsStandIn u) = true := by kernel_rfl
  exact (show Tryd.prog.wantsStandIn t = false by simpa using List.all_eq_true.1 hall t hm)

theorem glyphOnce_card (pure : ∀ (a0 : List Int) (a1 : List (List Int)) (a2 : List Int) (a3 : List (List Int)), (∀ y ∈ a0, (Lit.int .i64 y).wf = true) → (∀ x ∈ a1, ∀ y ∈ x, (Lit.int .u64 y).wf = true) → (∀ y ∈ a2, (Lit.int .i64 y).wf = true) → (∀ x ∈ a3, ∀ y ∈ x, (Lit.int .u64 y).wf = true) → ∃ k, G.hatstandlaw3_GlyphOnce.f k a0 a1 a2 a3 = some true) : Rows.GlyphOnceCardSaid :=
  Claim7.holds_tied_plain_at .later [] _ _ _ _ (glyphOnce_said pure) (fun _ h => by cases h) (by kernel_rfl) (fun _ h => by cases h) glyphOnce_row_tie rfl ⟨rfl, rfl⟩ (by kernel_rfl) rfl glyphOnce_plain (by kernel_rfl)
end Go.Proofs.YtcldjdngfmakbaaDoor
